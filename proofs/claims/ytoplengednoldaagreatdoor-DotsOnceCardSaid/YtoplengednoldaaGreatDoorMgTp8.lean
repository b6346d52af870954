/- Templates: what package template answers, as plain functions (no program in sight). A rule's text: the machine of states whose verdict Compile's is; ends that close each state (no program in sight). A path's nodes: strings.Split's pieces; joined again (no program in sight). The walks of package template: classes over texts, the labels of parts, how often each is there. The walks of package template: may parts be, labels beside them, a rule? The walks of package template: Split, Join's use, endless, Match. The walks of package template: a path taken apart. The walk of template.Apply: its labels are a row of the call's own. -/
import Derived.Test.YtoplengednoldaaGreatDoorLabDef
import Derived.Test.YtoplengednoldaaGreatDoorScanDef
import Derived.Test.YtoplengednoldaaGreatDoorMgPl8
import Derived.Lib.Join
import Derived.Lib.Split
import Derived.Test.YtoplengednoldaaGreatDoorCls
import Derived.Test.YtoplengednoldaaGreatDoorAppAny
import Derived.Test.YtoplengednoldaaGreatDoorOpenStr
import Derived.Test.YtoplengednoldaaGreatDoorQuiet2
import Derived.Test.YtoplengednoldaaGreatDoorLabB
import Derived.Maps.OwnOps
import Derived.Maps.OwnSet
import Derived.WalkSpells
import Derived.Deep.RegionHeld3
import Derived.Test.YtoplengednoldaaGreatDoorShelfJ
import Derived.Test.YtoplengednoldaaGreatDoorLabD
import Derived.Test.YtoplengednoldaaGreatDoorLabO
namespace Go.Proofs.YtoplengednoldaaGreatDoor
set_option linter.unusedVariables false
set_option linter.unusedSimpArgs false
open Go.RowKit
section
structure MRule where
  filter : List ByteArray
  parts : List ByteArray
  extra : List Lab
def isE (p : ByteArray) : Bool := p.data.toList == [42]
def isM (p : ByteArray) : Bool := p.data.toList == [109, 101, 116, 114, 105, 99]
def isT (p : ByteArray) : Bool := p.data.toList == [109, 101, 116, 114, 105, 99, 42]
def isK (p : ByteArray) : Bool := p.data.toList == [95]
/-- Is a part a label's name? -/
def isLb (p : ByteArray) : Bool := !isM p && (!isT p && !isK p)
def lbsT (ps : List ByteArray) : List ByteArray := ps.filter isLb
/-- Some bytes, all of a class. -/
def inksB (q : Int → Bool) (l : List UInt8) : Bool := (l.all fun c => q c.toNat) && !(l == [])
def textB (p : ByteArray) : Bool := inksB dtNode p.data.toList && decide (p.size ≤ 60)
/-- How often a label is there. -/
def cntL (ls : List ByteArray) (s : ByteArray) : Nat := ls.countP fun p => p.data.toList == s.data.toList
def namedB (ps : List ByteArray) : Bool := ps.any fun p => isM p || isT p
def tailOk (ps : List ByteArray) : Bool := !(ps.dropLast.any isT)
def wrongP (ls : List ByteArray) (p : ByteArray) : Bool := !textB p || decide (1 < cntL ls p)
def partsB (ps : List ByteArray) : Bool := tailOk ps && (namedB ps && (decide (ps.length ≤ 12) && !((lbsT ps).any (wrongP (lbsT ps)))))
/-- May a label stand beside those of parts? -/
def extraAt (ps : List ByteArray) (L : List Lab) (i : Nat) : Bool :=
  (decide (i = 0) || decide (nmL (L.getD (i - 1) default) < nmL (L.getD i default))) && (textB (L.getD i default).1 && (inksB tmInk (vlL (L.getD i default)) && (decide ((L.getD i default).2.size ≤ 60) && decide (cntL (lbsT ps) (L.getD i default).1 = 0))))
def extraTo (ps : List ByteArray) (L : List Lab) (k : Nat) : Bool := (List.range k).all (extraAt ps L)
def extraB (L : List Lab) (ps : List ByteArray) : Bool := extraTo ps L L.length && decide (L.length + (lbsT ps).length ≤ 8)
def wrongF (p : ByteArray) : Bool := !isE p && !textB p
/-- May a rule be? -/
def goodR (r : MRule) : Bool := decide (r.filter.length ≤ 12) && (decide (r.filter.length ≤ r.parts.length) && (!(r.filter.any wrongF) && (partsB r.parts && extraB r.extra r.parts)))
/-- The nodes between points. -/
def nodesL : List UInt8 → List (List UInt8)
  | [] => [[]]
  | c :: cs => if c = 46 then [] :: nodesL cs else match nodesL cs with
    | [] => [[c]]
    | x :: xs => (c :: x) :: xs
def nodesT (p : ByteArray) : List ByteArray := (nodesL p.data.toList).map mkS
def endless (ps : List ByteArray) : Bool := isT (ps.getD (ps.length - 1) default)
def filtTo (fs ns : List ByteArray) (k : Nat) : Bool := (List.range k).all fun i => isE (fs.getD i default) || (fs.getD i default).data.toList == (ns.getD i default).data.toList
/-- Is a rule one for nodes? -/
def fitsN (r : MRule) (ns : List ByteArray) : Bool := !(decide (ns.length < r.parts.length) || (decide (r.parts.length < ns.length) && !endless r.parts)) && filtTo r.filter ns r.filter.length
def matchT (r : MRule) (p : ByteArray) : Bool := goodR r && fitsN r (nodesT p)
def joinT (xs : List ByteArray) : ByteArray := mkS (Lib.join (xs.map (·.data.toList)) [46])
/-- What parts make of nodes: a name's, labels. -/
def takeGo : List ByteArray → List ByteArray → List ByteArray → List Lab → List ByteArray × List Lab
  | [], _, nm, lb => (nm, lb)
  | p :: ps, ns, nm, lb =>
    if isM p then takeGo ps ns.tail (nm ++ [ns.headD default]) lb
    else if isT p then takeGo ps ns.tail (nm ++ ns) lb
    else if isK p then takeGo ps ns.tail nm lb
    else takeGo ps ns.tail nm (lb ++ [(p, ns.headD default)])
def takeT (r : MRule) (p : ByteArray) : ByteArray × List Lab :=
  (joinT (takeGo r.parts (nodesT p) [] r.extra).1, (sortL (takeGo r.parts (nodesT p) [] r.extra).2).getD [])
def applyT (rs : List MRule) (p : ByteArray) : ByteArray × List Lab := match rs.find? fun r => matchT r p with
  | some r => takeT r p
  | none => (p, [])
/-- The nodes that parts take of a name's and labels. -/
def pathGo (L : List Lab) : List ByteArray → List ByteArray → List ByteArray → List ByteArray × Bool
  | [], ns, out => (out, decide (ns = []))
  | p :: ps, ns, out =>
    if isK p then ([], false)
    else if (isM p || isT p) && decide (ns = []) then ([], false)
    else if isT p then pathGo L ps [] (out ++ ns)
    else if isM p then pathGo L ps ns.tail (out ++ [ns.headD default])
    else match getL L p.data.toList with
      | none => ([], false)
      | some x => if inksB dtNode (vlL x) then pathGo L ps ns (out ++ [x.2]) else ([], false)
def hasX (L : List Lab) (x : Lab) : Bool := match getL L (nmL x) with
  | none => false
  | some y => vlL y == vlL x
def ownT (r : MRule) : List ByteArray := lbsT r.parts ++ r.extra.map (·.1)
def invertT (r : MRule) (name : ByteArray) (L : List Lab) : ByteArray × List Lab × Bool :=
  if goodR r && ((pathGo L r.parts (nodesT name) []).2 && (r.extra.all (hasX L) && matchT r (joinT (pathGo L r.parts (nodesT name) []).1))) then
    (joinT (pathGo L r.parts (nodesT name) []).1, outL L (ownT r), true)
  else (mkS [], [], false)
/-! ### a rule's text -/
def wEvery : ByteArray := mkS [42]
def wTail : ByteArray := mkS [109, 101, 116, 114, 105, 99, 42]
def fltGo (l : List UInt8) : Nat → Nat → Bool → List ByteArray → List ByteArray × Nat × Bool
  | 0, a, _, acc => (acc, a, true)
  | f + 1, a, no, acc =>
    if no then (acc, a, true)
    else if isB l a false 42 then
      if isB l (a + 1) false 46 then fltGo l f (a + 2) false (acc ++ [wEvery]) else (acc ++ [wEvery], a + 1, false)
    else
      if isB l (someS l dtNode a false).1 (someS l dtNode a false).2 46 then fltGo l f ((someS l dtNode a false).1 + 1) false (acc ++ [mkS (cutL l a (someS l dtNode a false).1)])
      else (acc ++ [mkS (cutL l a (someS l dtNode a false).1)], someS l dtNode a false)
def fltS (l : List UInt8) : List ByteArray × Nat × Bool := if isB l 0 false 35 then ([], 1, false) else fltGo l (l.length + 1) 0 false []
def prtGo (l : List UInt8) : Nat → Nat → Bool → List ByteArray → List ByteArray × Nat × Bool
  | 0, a, _, acc => (acc, a, true)
  | f + 1, a, no, acc =>
    if no then (acc, a, true)
    else if isM (mkS (cutL l a (someS l dtNode a false).1)) && isB l (someS l dtNode a false).1 (someS l dtNode a false).2 42 then (acc ++ [wTail], (someS l dtNode a false).1 + 1, false)
    else if isB l (someS l dtNode a false).1 (someS l dtNode a false).2 46 then prtGo l f ((someS l dtNode a false).1 + 1) false (acc ++ [mkS (cutL l a (someS l dtNode a false).1)])
    else (acc ++ [mkS (cutL l a (someS l dtNode a false).1)], someS l dtNode a false)
def labS (l : List UInt8) (a : Nat) : Lab × Nat × Bool :=
  let n := someS l dtNode a false
  let e := wordS l [61] n.1 n.2
  let v := someS l tmInk e.1 e.2
  ((mkS (cutL l a n.1), mkS (cutL l e.1 v.1)), v)
def extGo (l : List UInt8) : Nat → Nat → Bool → List Lab → List Lab × Nat × Bool
  | 0, a, _, acc => (acc, a, true)
  | f + 1, a, no, acc =>
    if no then (acc, a, true)
    else if isB l (labS l a).2.1 (labS l a).2.2 44 then extGo l f ((labS l a).2.1 + 1) false (acc ++ [(labS l a).1])
    else (acc ++ [(labS l a).1], (labS l a).2)
/-- The rule of a text, how far, does it stop? -/
def compS (l : List UInt8) : MRule × Nat × Bool :=
  let f := fltS l
  let w := wordS l [32] f.2.1 f.2.2
  let p := prtGo l (l.length + 1) w.1 w.2 []
  if isB l p.2.1 p.2.2 32 then
    let x := extGo l (l.length + 1) (p.2.1 + 1) false []
    (⟨f.1, p.1, x.1⟩, x.2)
  else (⟨f.1, p.1, []⟩, p.2)
def compT (l : List UInt8) : Except (Nat × Nat) MRule :=
  if (compS l).2.2 || decide ((compS l).2.1 ≠ l.length) then .error (11, (compS l).2.1)
  else if goodR (compS l).1 then .ok (compS l).1 else .error (19, 0)
end
section
inductive TQ where
  | q0 | qH | qS | qF | f0 | pp (u : List Int) | pt | x0 | xn | v0 | v
def wMet : List Int := [109, 101, 116, 114, 105, 99]
def stT : TQ → Int → Option TQ
  | .q0, c => if c = 35 then some .qH else if c = 42 then some .qS else if dtNode c then some .qF else none
  | .qH, c => if c = 32 then some (.pp []) else none
  | .qS, c => if c = 46 then some .f0 else if c = 32 then some (.pp []) else none
  | .qF, c => if dtNode c then some .qF else if c = 46 then some .f0 else if c = 32 then some (.pp []) else none
  | .f0, c => if c = 42 then some .qS else if dtNode c then some .qF else none
  | .pp u, c => if dtNode c then some (.pp (u ++ [c])) else if u = [] then none else if c = 42 then (if u = wMet then some .pt else none) else if c = 46 then some (.pp []) else if c = 32 then some .x0 else none
  | .pt, c => if c = 32 then some .x0 else none
  | .x0, c => if dtNode c then some .xn else none
  | .xn, c => if dtNode c then some .xn else if c = 61 then some .v0 else none
  | .v0, c => if tmInk c then some .v else none
  | .v, c => if tmInk c then some .v else if c = 44 then some .x0 else none
def acT : TQ → Bool
  | .pp u => !(u == [])
  | .pt => true
  | .v => true
  | _ => false
section
variable {l : List UInt8}
abbrev VT (l : List UInt8) (q : TQ) (a : Nat) : Int := vd stT acT l q a
/-- The verdict at an end that may be one. -/
def yz (l : List UInt8) (p : Nat) : Int := if p < l.length then (p : Int) else -1
def ye (l : List UInt8) (p : Nat) : Int := if isB l p false 32 = true then VT l .x0 (p + 1) else yz l p
theorem gs_fltGo : ∀ f a acc, l.length < f + a → a ≤ l.length → GG (VT l .f0 a) (fltGo l f a false acc).2 (gf1 stT acT l 32 (.pp []))
  | 0, a, acc, hf, ha => by omega
  | f + 1, a, acc, hf, ha => by
    unfold fltGo
    rw [if_neg (by simp)]
    cases k : isB l a false 42
    · rw [if_neg (by simp)]
      have h2 : GG (VT l .f0 a) (someS l dtNode a false) (gf2 stT acT l 46 .f0 32 (.pp [])) :=
        gg_some2 (q := .qF) rfl rfl (fun hl => by
          show (if _ = 42 then _ else if dtNode _ = true then _ else _) = _
          rw [if_neg (isB_f k hl)]) (fun d => rfl)
      have hle := someS_le l dtNode a false ha
      generalize someS l dtNode a false = r at h2 hle ⊢
      cases k2 : isB l r.1 r.2 46
      · rw [if_neg (by simp)]
        refine GG.then_ h2 (fun hr => ?_)
        rw [hr] at k2
        unfold gf2
        rw [k2, if_neg (by simp)]
      · rw [if_pos rfl]
        have hlt := isB_lt k2
        unfold GG at h2
        rw [hlt.2.1, if_neg (by simp)] at h2
        unfold gf2 at h2
        rw [hlt.2.1] at k2
        rw [k2, if_pos rfl] at h2
        rw [h2]
        exact gs_fltGo f _ _ (by omega) (by omega)
    · rw [if_pos rfl]
      have hk := isB_iff.1 k
      have h1 : VT l .f0 a = VT l .qS (a + 1) := vd_yes hk.1 (by rw [hk.2]; rfl)
      rw [h1]
      cases k2 : isB l (a + 1) false 46
      · rw [if_neg (by simp)]
        unfold GG
        rw [if_neg (by simp)]
        exact gf1_of rfl (fun hl => by
          show (if _ = 46 then _ else if _ = 32 then _ else _) = _
          rw [if_neg (isB_f k2 hl)])
      · rw [if_pos rfl]
        have hk2 := isB_iff.1 k2
        have h2 : VT l .qS (a + 1) = VT l .f0 (a + 2) := vd_yes hk2.1 (by rw [hk2.2]; rfl)
        rw [h2]
        exact gs_fltGo f _ _ (by omega) (by omega)
theorem fltGo_le : ∀ f a no acc, a ≤ l.length → a ≤ (fltGo l f a no acc).2.1 ∧ (fltGo l f a no acc).2.1 ≤ l.length
  | 0, a, no, acc, h => ⟨Nat.le_refl _, h⟩
  | f + 1, a, no, acc, h => by
    unfold fltGo
    split
    · exact ⟨Nat.le_refl _, h⟩
    split
    · rename_i k
      have := (isB_lt k).1
      split
      · rename_i k2
        have := (isB_lt k2).1
        have ih := fltGo_le f (a + 2) false (acc ++ [wEvery]) (by omega)
        omega
      · simp only; omega
    · have h1 := someS_le l dtNode a false h
      split
      · rename_i k2
        have := (isB_lt k2).1
        have ih := fltGo_le f ((someS l dtNode a false).1 + 1) false (acc ++ [mkS (cutL l a (someS l dtNode a false).1)]) (by omega)
        omega
      · exact h1
theorem gs_flt : GG (VT l .q0 0) (fltS l).2 (gf1 stT acT l 32 (.pp [])) := by
  unfold fltS
  cases k : isB l 0 false 35
  · rw [if_neg (by simp)]
    have e : VT l .q0 0 = VT l .f0 0 := by
      by_cases hl : 0 < l.length
      · have h1 : stT .q0 (bt l 0) = stT .f0 (bt l 0) := by
          show (if _ = 35 then _ else _) = _
          rw [if_neg (isB_f k hl)]; rfl
        cases h2 : stT .f0 (bt l 0) with
        | none => rw [show VT l .q0 0 = ((0 : Nat) : Int) from vd_no hl (h1.trans h2), show VT l .f0 0 = ((0 : Nat) : Int) from vd_no hl h2]
        | some q => rw [show VT l .q0 0 = VT l q (0 + 1) from vd_yes hl (h1.trans h2), show VT l .f0 0 = VT l q (0 + 1) from vd_yes hl h2]
      · rw [show VT l .q0 0 = ((0 : Nat) : Int) from vd_end (by omega) rfl, show VT l .f0 0 = ((0 : Nat) : Int) from vd_end (by omega) rfl]
    rw [e]
    exact gs_fltGo (l.length + 1) 0 [] (by omega) (by omega)
  · rw [if_pos rfl]
    have hk := isB_iff.1 k
    have h1 : VT l .q0 0 = VT l .qH (0 + 1) := vd_yes hk.1 (by rw [hk.2]; rfl)
    unfold GG
    rw [if_neg (by simp), h1]
    exact gf1_of rfl (fun _ => rfl)
theorem fltS_le : (fltS l).2.1 ≤ l.length := by
  unfold fltS
  split
  · rename_i k; have := (isB_lt k).1; simp only; omega
  · exact (fltGo_le (l.length + 1) 0 false [] (by omega)).2
/-! ### parts -/
def intsL (w : List UInt8) : List Int := w.map fun c => (c.toNat : Int)
theorem intsL_inj : ∀ a b : List UInt8, intsL a = intsL b → a = b
  | [], [], _ => rfl
  | [], _ :: _, h => by simp [intsL] at h
  | _ :: _, [], h => by simp [intsL] at h
  | x :: a, y :: b, h => by
    unfold intsL at h
    rw [List.map_cons, List.map_cons] at h
    injection h with h1 h2
    have h3 : x = y := UInt8.toNat_inj.1 (by omega)
    rw [h3, intsL_inj a b h2]
theorem isM_ints (w : List UInt8) : isM (mkS w) = decide (intsL w = wMet) := by
  apply bcl
  unfold isM mkS
  rw [beq_iff_eq, decide_eq_true_eq]
  simp only
  exact ⟨fun h => by rw [h]; rfl, fun h => intsL_inj _ _ (h.trans rfl)⟩
theorem cut_step {a b : Nat} (h : a < b) (hb : b ≤ l.length) : intsL (cutL l a b) = bt l a :: intsL (cutL l (a + 1) b) := by
  unfold cutL intsL
  rw [List.drop_eq_getElem_cons (by omega : a < l.length), show b - a = (b - (a + 1)) + 1 by omega, List.take_succ_cons, List.map_cons, bt_get (by omega)]
theorem cut_same (a : Nat) : cutL l a a = [] := by unfold cutL; simp
theorem vd_pp : ∀ (n a : Nat) (u : List Int), l.length - a ≤ n → a ≤ l.length → VT l (.pp u) a = VT l (.pp (u ++ intsL (cutL l a (whA l dtNode a)))) (whA l dtNode a)
  | 0, a, u, hn, ha => by
    rw [whA_end (by omega), cut_same]; simp [intsL]
  | n + 1, a, u, hn, ha => by
    by_cases hl : a < l.length
    · cases hp : dtNode (bt l a)
      · rw [whA_no hl hp, cut_same]; simp [intsL]
      · have h2 := whA_le l dtNode (a + 1) (by omega)
        rw [whA_yes hl hp, cut_step (by omega) h2.2]
        have h1 : VT l (.pp u) a = VT l (.pp (u ++ [bt l a])) (a + 1) := vd_yes hl (by
          show (if dtNode _ = true then _ else _) = _
          rw [if_pos hp])
        rw [h1, vd_pp n (a + 1) (u ++ [bt l a]) (by omega) (by omega), List.append_assoc]
        rfl
    · rw [whA_end (by omega), cut_same]; simp [intsL]
theorem v_pt {p : Nat} (hp : p ≤ l.length) : VT l .pt p = ye l p := by
  unfold ye yz
  by_cases h : p < l.length
  · cases k : isB l p false 32
    · rw [if_neg (by simp), if_pos h]
      exact vd_no h (by show (if _ = 32 then _ else _) = _; rw [if_neg (isB_f k h)])
    · have hk := isB_iff.1 k
      rw [if_pos rfl]
      exact vd_yes h (by rw [hk.2]; rfl)
  · rw [isB_end h, if_neg (by simp), if_neg h]
    exact vd_acc (by omega) rfl
theorem gs_prtGo : ∀ f a acc, l.length < f + a → a ≤ l.length → GG (VT l (.pp []) a) (prtGo l f a false acc).2 (ye l)
  | 0, a, acc, hf, ha => by omega
  | f + 1, a, acc, hf, ha => by
    have hv := vd_pp (l := l) (l.length - a) a [] (Nat.le_refl _) ha
    have hle := someS_le l dtNode a false ha
    have hs := someS_stop (l := l) (p := dtNode) (a := a)
    have e1 : (someS l dtNode a false).1 = whA l dtNode a := by simp [someS]
    have e2 : (someS l dtNode a false).2 = (whA l dtNode a == a) := by simp [someS]
    unfold prtGo
    rw [if_neg (by simp)]
    rw [← e1] at hv e2
    generalize someS l dtNode a false = r at hv hle hs e2 ⊢
    obtain ⟨b, nb⟩ := r
    simp only at hv hle hs e2 ⊢
    rw [List.nil_append] at hv
    by_cases hab : b = a
    · obtain rfl : nb = true := by rw [e2, hab]; simp
      subst hab
      simp only [isB_no, Bool.and_false, Bool.false_eq_true, if_false]
      unfold GG
      simp only [if_true]
      by_cases hl : b < l.length
      · exact vd_no hl (by
          show (if dtNode _ = true then _ else if ([] : List Int) = [] then _ else _) = _
          rw [if_neg (by rw [hs hl]; simp), if_pos rfl])
      · exact vd_end (by omega) rfl
    · obtain rfl : nb = false := by rw [e2, beq_eq_false_iff_ne]; exact hab
      have hne : intsL (cutL l a b) ≠ [] := by
        rw [cut_step (by omega) hle.2]; simp
      rw [isM_ints]
      generalize intsL (cutL l a b) = u at hv hne ⊢
      by_cases h42 : u = wMet ∧ isB l b false 42 = true
      · rw [if_pos (by simp [h42.1, h42.2])]
        have hk := isB_iff.1 h42.2
        unfold GG
        rw [if_neg (by simp), hv, ← v_pt (by simp only; omega)]
        refine vd_yes hk.1 ?_
        rw [hk.2, h42.1]; rfl
      · rw [if_neg (by simpa using h42)]
        cases k : isB l b false 46
        · rw [if_neg (by simp)]
          unfold GG
          rw [if_neg (by simp), hv]
          unfold ye yz
          by_cases hl : b < l.length
          · have hst : stT (.pp u) (bt l b) = if bt l b = 32 then some .x0 else none := by
              show (if dtNode _ = true then _ else if u = [] then _ else if _ = 42 then _ else if _ = 46 then _ else _) = _
              rw [if_neg (by rw [hs hl]; simp), if_neg hne]
              by_cases h1 : bt l b = 42
              · rw [if_pos h1, if_neg (fun h => h42 ⟨h, isB_iff.2 ⟨hl, h1⟩⟩), if_neg (by rw [h1]; decide)]
              · rw [if_neg h1, if_neg (isB_f k hl)]
            cases k2 : isB l b false 32
            · rw [if_neg (by simp), if_pos hl]
              exact vd_no hl (by rw [hst, if_neg (isB_f k2 hl)])
            · rw [if_pos rfl]
              exact vd_yes hl (by rw [hst, if_pos (isB_iff.1 k2).2])
          · rw [isB_end hl, if_neg (by simp), if_neg hl]
            exact vd_acc (by omega) (by simpa [acT] using hne)
        · rw [if_pos rfl]
          have hk := isB_iff.1 k
          have h2 : VT l (.pp u) b = VT l (.pp []) (b + 1) := vd_yes hk.1 (by
            show (if dtNode _ = true then _ else if u = [] then _ else if _ = 42 then _ else if _ = 46 then _ else _) = _
            rw [if_neg (by rw [hs hk.1]; simp), if_neg hne, hk.2]; rfl)
          rw [hv, h2]
          exact gs_prtGo f _ _ (by omega) (by omega)
theorem prtGo_le : ∀ f a no acc, a ≤ l.length → a ≤ (prtGo l f a no acc).2.1 ∧ (prtGo l f a no acc).2.1 ≤ l.length
  | 0, a, no, acc, h => ⟨Nat.le_refl _, h⟩
  | f + 1, a, no, acc, h => by
    unfold prtGo
    have h1 := someS_le l dtNode a false h
    split
    · exact ⟨Nat.le_refl _, h⟩
    split
    · rename_i k
      simp only [Bool.and_eq_true] at k
      have := (isB_lt k.2).1
      simp only; omega
    split
    · rename_i k2
      have := (isB_lt k2).1
      have ih := prtGo_le f ((someS l dtNode a false).1 + 1) false (acc ++ [mkS (cutL l a (someS l dtNode a false).1)]) (by omega)
      omega
    · exact h1
theorem prtGo_no (f a : Nat) (acc : List ByteArray) : (prtGo l f a true acc).2 = (a, true) := by
  cases f <;> simp [prtGo]
/-! ### labels -/
theorem labS_le {a : Nat} (h : a ≤ l.length) : a ≤ (labS l a).2.1 ∧ (labS l a).2.1 ≤ l.length := by
  unfold labS
  simp only
  have h1 := someS_le l dtNode a false h
  generalize someS l dtNode a false = k at h1 ⊢
  have h2 := wordS_le l [61] k.1 k.2 h1.2
  generalize wordS l [61] k.1 k.2 = e at h2 ⊢
  have h3 := someS_le l tmInk e.1 e.2 h2.2
  omega
theorem extGo_le : ∀ f a no acc, a ≤ l.length → a ≤ (extGo l f a no acc).2.1 ∧ (extGo l f a no acc).2.1 ≤ l.length
  | 0, a, no, acc, h => ⟨Nat.le_refl _, h⟩
  | f + 1, a, no, acc, h => by
    unfold extGo
    have h1 := labS_le (l := l) h
    split
    · exact ⟨Nat.le_refl _, h⟩
    split
    · rename_i k
      have := (isB_lt k).1
      have ih := extGo_le f ((labS l a).2.1 + 1) false (acc ++ [(labS l a).1]) (by omega)
      omega
    · exact h1
theorem gs_lab {a : Nat} : GG (VT l .x0 a) (labS l a).2 (VT l .v) := by
  have h1 : GG (VT l .x0 a) (someS l dtNode a false) (gf1 stT acT l 61 .v0) := gg_some1 (q := .xn) rfl rfl (fun _ => rfl) (fun d => rfl)
  have h2 := GG.bind (F := fun p no => wordS l [61] p no) h1 (word_no _ _ _) (fun _ => gg_word1 61 TQ.v0 _)
  refine GG.bind (F := fun p no => someS l tmInk p no) h2 (some_noG _ _) (fun _ => gg_some rfl (fun _ => rfl) (fun d hd => ?_))
  show (if tmInk d = true then _ else _) = _
  rw [if_pos hd]
theorem lab_stop {a : Nat} (h : (labS l a).2.2 = false) (h2 : (labS l a).2.1 < l.length) : tmInk (bt l (labS l a).2.1) = false := by
  unfold labS at h h2 ⊢
  simp only at h h2 ⊢
  generalize wordS l [61] (someS l dtNode a false).1 (someS l dtNode a false).2 = e at h h2 ⊢
  obtain ⟨p, np⟩ := e
  cases np
  · exact someS_stop h2
  · simp [someS] at h
theorem gs_extGo : ∀ f a acc, l.length < f + a → a ≤ l.length → GG (VT l .x0 a) (extGo l f a false acc).2 (yz l)
  | 0, a, acc, hf, ha => by omega
  | f + 1, a, acc, hf, ha => by
    have ht := gs_lab (l := l) (a := a)
    have hle := labS_le (l := l) ha
    have hst := lab_stop (l := l) (a := a)
    unfold extGo
    rw [if_neg (by simp)]
    generalize (labS l a).1 = X
    generalize (labS l a).2 = r at ht hle hst ⊢
    cases k : isB l r.1 r.2 44
    · rw [if_neg (by simp)]
      refine GG.then_ ht (fun hr => ?_)
      rw [hr] at k
      unfold yz
      by_cases hl : r.1 < l.length
      · rw [if_pos hl]
        exact vd_no hl (by
          show (if tmInk _ = true then _ else if _ = 44 then _ else _) = _
          rw [if_neg (by rw [hst hr hl]; simp), if_neg (isB_f k hl)])
      · rw [if_neg hl]
        simp only at hl hle ⊢
        exact vd_acc (by omega) rfl
    · rw [if_pos rfl]
      have hlt := isB_lt k
      unfold GG at ht
      rw [hlt.2.1, if_neg (by simp)] at ht
      have h2 : VT l .v r.1 = VT l .x0 (r.1 + 1) := vd_yes hlt.1 (by rw [hlt.2.2]; rfl)
      rw [ht, h2]
      exact gs_extGo f _ _ (by omega) (by omega)
/-! ### a rule -/
theorem gs_comp : GG (VT l .q0 0) (compS l).2 (yz l) ∧ (compS l).2.1 ≤ l.length := by
  have h1 := gs_flt (l := l)
  have l1 := fltS_le (l := l)
  unfold compS
  simp only
  generalize fltS l = r at h1 l1 ⊢
  have h2 := GG.bind (F := fun p no => wordS l [32] p no) h1 (word_no _ _ _) (fun _ => gg_word1 32 (TQ.pp []) _)
  have l2 := wordS_le l [32] r.2.1 r.2.2 l1
  try simp only at h2
  generalize wordS l [32] r.2.1 r.2.2 = w at h2 l2 ⊢
  have h3 := GG.bind (F := fun p no => (prtGo l (l.length + 1) p no []).2) h2 (prtGo_no _ _ _) (fun _ => gs_prtGo (l.length + 1) _ [] (by omega) l2.2)
  have l3 := prtGo_le (l := l) (l.length + 1) w.1 w.2 [] l2.2
  try simp only at h3
  generalize prtGo l (l.length + 1) w.1 w.2 [] = p at h3 l3 ⊢
  cases k : isB l p.2.1 p.2.2 32
  · rw [if_neg (by simp)]
    refine ⟨GG.then_ h3 (fun hr => ?_), l3.2⟩
    rw [hr] at k
    unfold ye
    rw [k, if_neg (by simp)]
  · rw [if_pos rfl]
    have hlt := isB_lt k
    unfold GG at h3
    rw [hlt.2.1, if_neg (by simp)] at h3
    unfold ye at h3
    rw [hlt.2.1] at k
    rw [k, if_pos rfl] at h3
    rw [h3]
    exact ⟨gs_extGo (l.length + 1) _ [] (by omega) (by omega), (extGo_le (l := l) (l.length + 1) _ false [] (by omega)).2⟩
theorem compS_le (l : List UInt8) : (compS l).2.1 ≤ l.length := gs_comp.2
/-- The verdict on a text: -1: it is of the form. -/
def compV (l : List UInt8) : Int := vdGo stT acT .q0 l 0
theorem compV_eq (l : List UInt8) : compV l = if ((compS l).2.2 || decide ((compS l).2.1 ≠ l.length)) = true then ((compS l).2.1 : Int) else -1 := by
  obtain ⟨h, hle⟩ := gs_comp (l := l)
  have e : compV l = VT l .q0 0 := rfl
  rw [e]
  unfold GG yz at h
  rw [h]
  cases (compS l).2.2
  · by_cases hl : (compS l).2.1 < l.length
    · rw [if_neg (by simp), if_pos hl, if_pos (by simp; omega)]
    · rw [if_neg (by simp), if_neg hl, if_neg (by simp; omega)]
  · simp
theorem compT_bad {k : Nat} (h : compV l = (k : Int)) : compT l = .error (11, k) ∧ k ≤ l.length := by
  rw [compV_eq] at h
  have := compS_le l
  unfold compT
  split at h
  · rename_i hc
    rw [if_pos hc]
    have : (compS l).2.1 = k := by omega
    rw [this] at *
    exact ⟨rfl, by omega⟩
  · omega
theorem compT_good (h : compV l = -1) : ∀ k, compT l ≠ .error (11, k) := by
  rw [compV_eq] at h
  intro k
  unfold compT
  split at h
  · omega
  · rename_i hc
    rw [if_neg hc]
    split
    · simp
    · simp
theorem compV_cases (l : List UInt8) : compV l = -1 ∨ ∃ k : Nat, k ≤ l.length ∧ compV l = (k : Int) := by
  have := vdGo_bd (st := stT) (ac := acT) l TQ.q0 0
  unfold compV
  rcases this with h | h
  · exact .inl h
  · exact .inr ⟨(vdGo stT acT TQ.q0 l 0).toNat, by omega, by omega⟩
theorem comp_far {k : Nat} (h : compV l = (k : Int)) (hk : k < l.length) (e : List UInt8) : compV (l.take (k + 1) ++ e) = (k : Int) := vdGo_far l TQ.q0 0 k h (by omega) e
/-- The ends that are tried. -/
def endsT : List (List UInt8) := [[], [97], [35, 32, 97], [32, 97], [61, 97], [97, 61, 97], [97, 32, 97]]
def closeT : TQ → Nat
  | .q0 => 2 | .qH => 3 | .qS => 3 | .qF => 3 | .f0 => 6 | .pp u => if u = [] then 1 else 0 | .pt => 0 | .x0 => 5 | .xn => 4 | .v0 => 1 | .v => 0
theorem closeT_ok (q : TQ) : closeT q < 7 ∧ vdGo stT acT q (endsT.getD (closeT q) []) 0 = -1 := by
  cases q with
  | pp u =>
    by_cases h : u = []
    · subst h; exact ⟨by decide, by decide +kernel⟩
    · have e : closeT (.pp u) = 0 := if_neg h
      rw [e]
      refine ⟨by decide, ?_⟩
      show (if acT (.pp u) = true then (-1 : Int) else _) = -1
      rw [if_pos (by simpa [acT] using h)]
  | _ => exact ⟨by decide, by decide +kernel⟩
theorem comp_closes {k : Nat} (h : compV l = (k : Int)) : ∃ i, i < 7 ∧ compV (l.take k ++ endsT.getD i []) = -1 := by
  have hb := vdGo_bd (st := stT) (ac := acT) l TQ.q0 0
  obtain ⟨q, hq, _⟩ := vdGo_reach (st := stT) (ac := acT) k l TQ.q0 0 (by unfold compV at h; omega) (by right; unfold compV at h; omega)
  obtain ⟨h1, h2⟩ := closeT_ok q
  refine ⟨_, h1, ?_⟩
  unfold compV
  rw [hq]
  exact vdGo_neg _ _ _ _ h2
end
end
section
theorem dotPre (c : UInt8) (cs : List UInt8) : ([46] : List UInt8).isPrefixOf (c :: cs) = decide (c = 46) := by
  apply bcl
  simp [List.isPrefixOf]
  exact ⟨fun h => h.symm, fun h => h.symm⟩
theorem nodesL_cons (c : UInt8) (cs : List UInt8) : nodesL (c :: cs) = if c = 46 then [] :: nodesL cs else match nodesL cs with
    | [] => [[c]]
    | x :: xs => (c :: x) :: xs := rfl
theorem nodes_miss : ∀ s : List UInt8, Lib.index s [46] = -1 → nodesL s = [s]
  | [], _ => rfl
  | c :: cs, h => by
    unfold Lib.index at h
    rw [dotPre] at h
    by_cases hc : c = 46
    · rw [if_pos (by simpa using hc)] at h; omega
    · rw [if_neg (by simpa using hc)] at h
      have := Lib.index_ge cs [46]
      have h2 : Lib.index cs [46] = -1 := by
        split at h
        · rename_i k; simpa using k
        · omega
      rw [nodesL_cons, if_neg hc, nodes_miss cs h2]
theorem nodes_hit : ∀ (s : List UInt8) (i : Nat), Lib.index s [46] = (i : Int) → nodesL s = s.take i :: nodesL (s.drop (i + 1))
  | [], i, h => by
    unfold Lib.index at h
    simp at h
  | c :: cs, i, h => by
    unfold Lib.index at h
    rw [dotPre] at h
    by_cases hc : c = 46
    · rw [if_pos (by simpa using hc)] at h
      obtain rfl : i = 0 := by omega
      rw [nodesL_cons, if_pos hc]; simp
    · rw [if_neg (by simpa using hc)] at h
      split at h
      · omega
      · obtain ⟨j, rfl⟩ : ∃ j, i = j + 1 := ⟨i - 1, by
          have := Lib.index_ge cs [46]
          rename_i k
          have : Lib.index cs [46] ≠ -1 := by simpa using k
          omega⟩
        have ih := nodes_hit cs j (by omega)
        rw [nodesL_cons, if_neg hc, ih]
        simp
theorem split_nodes : ∀ (n : Nat) (s : List UInt8), s.length ≤ n → Lib.splitK [46] 0 (Lib.count s [46]) s = nodesL s := by
  intro n
  induction n with
  | zero =>
    intro s hs
    obtain rfl : s = [] := List.length_eq_zero_iff.1 (by omega)
    rfl
  | succ n ih =>
    intro s hs
    rcases Lib.index_spec s [46] with ⟨h, _⟩ | ⟨i, h, hi, _, _⟩
    · rw [Lib.count_miss h, nodes_miss s h]; rfl
    · have hr := Lib.index_room s [46] (by omega)
      simp only [List.length_singleton] at hr
      rw [Lib.count_hit (by simp) h, nodes_hit s i h, Nat.add_comm]
      unfold Lib.splitK
      rw [if_neg (by rw [h]; simp), h]
      simp only [List.length_singleton, Nat.add_zero, Int.toNat_natCast]
      rw [ih _ (by rw [List.length_drop]; omega)]
theorem mkS_data (s : ByteArray) : mkS s.data.toList = s := by cases s; rfl
theorem splitB_nodes (p : ByteArray) : Lib.splitB ⟨#[46]⟩ 0 (Lib.countB p ⟨#[46]⟩) p = nodesT p := by
  have h := Lib.splitB_data ⟨#[46]⟩ 0 (Lib.countB p ⟨#[46]⟩) p
  unfold nodesT
  rw [← split_nodes _ p.data.toList (Nat.le_refl _)]
  have h2 : Lib.countB p ⟨#[46]⟩ = Lib.count p.data.toList [46] := rfl
  rw [h2] at h ⊢
  show _ = List.map mkS (Lib.splitK (⟨#[46]⟩ : ByteArray).data.toList 0 _ _)
  rw [← h, List.map_map]
  have : (mkS ∘ fun x : ByteArray => x.data.toList) = id := by funext x; exact mkS_data x
  rw [this, List.map_id]
theorem nodesL_len : ∀ l : List UInt8, 1 ≤ (nodesL l).length ∧ (nodesL l).length ≤ l.length + 1
  | [] => ⟨Nat.le_refl _, Nat.le_refl _⟩
  | c :: cs => by
    have ih := nodesL_len cs
    rw [nodesL_cons]
    split
    · simp only [List.length_cons]; omega
    · split
      · simp
      · rename_i h; rw [h] at ih; simp only [List.length_cons] at ih ⊢; omega
theorem nodesT_len (p : ByteArray) : 1 ≤ (nodesT p).length ∧ (nodesT p).length ≤ p.size + 1 := by
  have := nodesL_len p.data.toList
  unfold nodesT
  rw [List.length_map]
  simpa using this
theorem nodesL_sz : ∀ (l x : List UInt8), x ∈ nodesL l → x.length ≤ l.length
  | [], x, h => by simp [nodesL] at h; subst h; simp
  | c :: cs, x, h => by
    rw [nodesL_cons] at h
    split at h
    · rcases List.mem_cons.1 h with rfl | h
      · simp
      · have := nodesL_sz cs x h; simp; omega
    · split at h
      · simp at h; subst h; simp
      · rename_i y ys hy
        rcases List.mem_cons.1 h with rfl | h
        · have := nodesL_sz cs y (by rw [hy]; simp); simp; omega
        · have := nodesL_sz cs x (by rw [hy]; simp [h]); simp; omega
theorem nodesT_sz {p x : ByteArray} (h : x ∈ nodesT p) : x.size ≤ p.size := by
  unfold nodesT at h
  obtain ⟨y, hy, rfl⟩ := List.mem_map.1 h
  have h2 := nodesL_sz _ y hy
  have e : (mkS y).size = y.length := rfl
  have e2 : p.data.toList.length = p.size := by simp
  omega
/-! ### joined -/
theorem dotTail (y : List UInt8) (r : List (List UInt8)) : Lib.joinTail [46] (y :: r) = 46 :: Lib.join (y :: r) [46] := by
  rw [Lib.join_cons]
  simp [Lib.joinTail]
theorem join_nodes : ∀ s : List UInt8, Lib.join (nodesL s) [46] = s
  | [] => rfl
  | c :: cs => by
    have ih := join_nodes cs
    have hl := nodesL_len cs
    rw [nodesL_cons]
    cases h : nodesL cs with
    | nil => rw [h] at hl; simp at hl
    | cons x r =>
      rw [h] at ih
      split
      · rename_i hc
        rw [Lib.join_cons, dotTail, ih, hc]; rfl
      · simp only
        rw [Lib.join_cons] at ih ⊢
        rw [List.cons_append, ih]
theorem nodes_plain : ∀ a : List UInt8, (46 : UInt8) ∉ a → nodesL a = [a]
  | [], _ => rfl
  | c :: cs, h => by
    rw [nodesL_cons, if_neg (fun e => h (by rw [e]; simp)), nodes_plain cs (fun k => h (List.mem_cons_of_mem _ k))]
theorem nodes_app : ∀ a b : List UInt8, (46 : UInt8) ∉ a → nodesL (a ++ 46 :: b) = a :: nodesL b
  | [], b, _ => by
    show nodesL (46 :: b) = _
    rw [nodesL_cons, if_pos rfl]
  | c :: cs, b, h => by
    rw [List.cons_append]
    rw [nodesL_cons, if_neg (fun e => h (by rw [e]; simp)), nodes_app cs b (fun k => h (List.mem_cons_of_mem _ k))]
theorem nodes_join : ∀ xs : List (List UInt8), xs ≠ [] → (∀ x ∈ xs, (46 : UInt8) ∉ x) → nodesL (Lib.join xs [46]) = xs
  | [], h, _ => absurd rfl h
  | [x], _, h => by
    rw [Lib.join_one]
    exact nodes_plain x (h x (by simp))
  | x :: y :: r, _, h => by
    rw [Lib.join_cons, dotTail, nodes_app x _ (h x (by simp)), nodes_join (y :: r) (by simp) (fun z hz => h z (List.mem_cons_of_mem _ hz))]
theorem join_le (M : Nat) : ∀ xs : List (List UInt8), (∀ x ∈ xs, x.length ≤ M) → (Lib.join xs [46]).length ≤ xs.length * (M + 1)
  | [], _ => by simp [Lib.join_nil]
  | [x], h => by
    rw [Lib.join_one]
    have := h x (by simp)
    simp; omega
  | x :: y :: r, h => by
    have ih := join_le M (y :: r) (fun z hz => h z (List.mem_cons_of_mem _ hz))
    have hx := h x (by simp)
    rw [Lib.join_cons, dotTail, List.length_append, List.length_cons]
    have e : (x :: y :: r).length = (y :: r).length + 1 := rfl
    rw [e, Nat.add_mul]
    omega
theorem joinT_le (M : Nat) (xs : List ByteArray) (h : ∀ x ∈ xs, x.size ≤ M) : (joinT xs).size ≤ xs.length * (M + 1) := by
  have := join_le M (xs.map (·.data.toList)) (fun x hx => by
    obtain ⟨y, hy, rfl⟩ := List.mem_map.1 hx
    have := h y hy
    simpa using this)
  rw [List.length_map] at this
  exact this
end
section
theorem inks_no {p : Int → Bool} {l : List UInt8} {k : Nat} (hk : k < l.length) (h : p (bt l k) = false) : inksB p l = false := by
  unfold inksB
  have : (l.all fun c => p c.toNat) = false := by
    rw [List.all_eq_false]
    exact ⟨l[k], List.getElem_mem hk, by rw [← bt_get hk, h]; simp⟩
  rw [this]; rfl
theorem inks_yes {p : Int → Bool} {l : List UInt8} (h : ∀ j, j < l.length → p (bt l j) = true) : inksB p l = !(l == []) := by
  unfold inksB
  have : (l.all fun c => p c.toNat) = true := by
    rw [List.all_eq_true]
    intro c hc
    obtain ⟨j, hj, rfl⟩ := List.getElem_of_mem hc
    rw [← bt_get hj]; exact h j hj
  rw [this]; rfl
set_option maxHeartbeats 1600000 in
theorem inks_node (s : ByteArray) (w : World) (hs : s.size ≤ 9223372036854775807) :
    Calls Tryz.prog 228 #[.string s, .func (.func 229) #[] #[]] w fun e w' => e = .returned (.bool (inksB dtNode s.data.toList)) ∧ w' = w := by
  have HL : Hid (s.data.toList.length = s.size) := Lib.hid (by simp)
  obtain ⟨V, hV⟩ : ∃ V, inksB dtNode s.data.toList = V := ⟨_, rfl⟩
  rw [hV]
  have HV := Lib.hid hV
  clear hV
  go_enter Tryz.func228, Tryz.ntmps228
  go_wp2_with fail
  go_loop [8] (fun i => ∃ k : Nat, k ≤ s.size ∧ i = .int .i64 k ∧ Hid (∀ j, j < k → dtNode (bt s.data.toList j) = true)) (fun i => s.size - (intOf i).toNat)
  case atStart => exact ⟨0, by omega, rfl, Lib.hid (fun j h => by omega)⟩
  case round =>
    obtain ⟨k, hk, rfl, HG⟩ := hrel
    by_cases hlt : k < s.size
    · have hd : decide ((k : Int) < s.size) = true := decide_eq_true (by omega)
      have hk0 : (0 : Int) ≤ k := by omega
      have hk1 : (k : Int) < s.size := by omega
      have HC := Lib.hid (getElem_bt hlt)
      have kK := fun W => tnodeE ((s[k]'hlt).toNat : Int) W (by omega) (by have := (s[k]'hlt).toNat_lt; omega)
      cases hp : dtNode ((s[k]'hlt).toNat : Int)
      · rw [hp] at kK
        have HF : Hid (V = false) := Lib.hid (by rw [← HV.out]; exact inks_no (by rw [HL.out]; exact hlt) (by rw [← HC.out]; exact hp))
        clear hp HG
        go_wp2_with (go_at_call 229; refine (kK _).mono ?_; rintro e w1 ⟨rfl, hw1⟩; rw [hw1]; clear hw1 w1)
        go_ret
        exact ⟨ret_bool HF.out.symm, rfl⟩
      · rw [hp] at kK
        have HF : Hid (∀ j, j < k + 1 → dtNode (bt s.data.toList j) = true) := Lib.hid (fun j hj => by
          by_cases e : j = k
          · rw [e, ← HC.out]; exact hp
          · exact HG.out j (by omega))
        clear hp HG
        go_wp2_with (go_at_call 229; refine (kK _).mono ?_; rintro e w1 ⟨rfl, hw1⟩; rw [hw1]; clear hw1 w1)
        exact ⟨⟨k + 1, by omega, rfl, HF⟩, by (simp only [intOf]; omega)⟩
    · have hd : decide ((k : Int) < s.size) = false := decide_eq_false (by omega)
      have HF : Hid (V = !(s.data.toList == [])) := Lib.hid (by rw [← HV.out]; exact inks_yes (fun j hj => HG.out j (by rw [HL.out] at hj; omega)))
      clear HG
      go_wp2_with fail
      go_ret
      exact ⟨ret_bool (by rw [HF.out, ← ByteArray.toList_eq]; cases s.toList <;> rfl), rfl⟩
set_option maxHeartbeats 1600000 in
theorem inks_ink (s : ByteArray) (w : World) (hs : s.size ≤ 9223372036854775807) :
    Calls Tryz.prog 228 #[.string s, .func (.func 234) #[] #[]] w fun e w' => e = .returned (.bool (inksB tmInk s.data.toList)) ∧ w' = w := by
  have HL : Hid (s.data.toList.length = s.size) := Lib.hid (by simp)
  obtain ⟨V, hV⟩ : ∃ V, inksB tmInk s.data.toList = V := ⟨_, rfl⟩
  rw [hV]
  have HV := Lib.hid hV
  clear hV
  go_enter Tryz.func228, Tryz.ntmps228
  go_wp2_with fail
  go_loop [8] (fun i => ∃ k : Nat, k ≤ s.size ∧ i = .int .i64 k ∧ Hid (∀ j, j < k → tmInk (bt s.data.toList j) = true)) (fun i => s.size - (intOf i).toNat)
  case atStart => exact ⟨0, by omega, rfl, Lib.hid (fun j h => by omega)⟩
  case round =>
    obtain ⟨k, hk, rfl, HG⟩ := hrel
    by_cases hlt : k < s.size
    · have hd : decide ((k : Int) < s.size) = true := decide_eq_true (by omega)
      have hk0 : (0 : Int) ≤ k := by omega
      have hk1 : (k : Int) < s.size := by omega
      have HC := Lib.hid (getElem_bt hlt)
      have kK := fun W => tinkE ((s[k]'hlt).toNat : Int) W (by omega) (by have := (s[k]'hlt).toNat_lt; omega)
      cases hp : tmInk ((s[k]'hlt).toNat : Int)
      · rw [hp] at kK
        have HF : Hid (V = false) := Lib.hid (by rw [← HV.out]; exact inks_no (by rw [HL.out]; exact hlt) (by rw [← HC.out]; exact hp))
        clear hp HG
        go_wp2_with (go_at_call 234; refine (kK _).mono ?_; rintro e w1 ⟨rfl, hw1⟩; rw [hw1]; clear hw1 w1)
        go_ret
        exact ⟨ret_bool HF.out.symm, rfl⟩
      · rw [hp] at kK
        have HF : Hid (∀ j, j < k + 1 → tmInk (bt s.data.toList j) = true) := Lib.hid (fun j hj => by
          by_cases e : j = k
          · rw [e, ← HC.out]; exact hp
          · exact HG.out j (by omega))
        clear hp HG
        go_wp2_with (go_at_call 234; refine (kK _).mono ?_; rintro e w1 ⟨rfl, hw1⟩; rw [hw1]; clear hw1 w1)
        exact ⟨⟨k + 1, by omega, rfl, HF⟩, by (simp only [intOf]; omega)⟩
    · have hd : decide ((k : Int) < s.size) = false := decide_eq_false (by omega)
      have HF : Hid (V = !(s.data.toList == [])) := Lib.hid (by rw [← HV.out]; exact inks_yes (fun j hj => HG.out j (by rw [HL.out] at hj; omega)))
      clear HG
      go_wp2_with fail
      go_ret
      exact ⟨ret_bool (by rw [HF.out, ← ByteArray.toList_eq]; cases s.toList <;> rfl), rfl⟩
theorem isText_any (s : ByteArray) (w : World) (hs : s.size ≤ 9223372036854775807) :
    Calls Tryz.prog 193 #[.string s] w fun e w' => e = .returned (.bool (textB s)) ∧ w' = w := by
  have k := fun W => inks_node s W hs
  have HB : Hid (textB s = (inksB dtNode s.data.toList && decide (s.size ≤ 60))) := Lib.hid rfl
  generalize inksB dtNode s.data.toList = Q at k HB
  cases Q
  · go_enter Tryz.func193, Tryz.ntmps193
    go_wp2_with (go_at_call 228; refine (k _).mono ?_; rintro e w1 ⟨rfl, hw1⟩; rw [hw1]; clear hw1 w1)
    go_ret
    exact ⟨ret_bool (by rw [HB.out]; rfl), rfl⟩
  · have hd : decide ((s.size : Int) ≤ 60) = decide (s.size ≤ 60) := decide_eq_decide.2 (by omega)
    go_enter Tryz.func193, Tryz.ntmps193
    go_wp2_with (go_at_call 228; refine (k _).mono ?_; rintro e w1 ⟨rfl, hw1⟩; rw [hw1]; clear hw1 w1)
    go_ret
    exact ⟨ret_bool (by rw [HB.out]; simp; try omega), rfl⟩
/-! ### the labels of parts -/
theorem lb_yes {L : List ByteArray} {k : Nat} {x : ByteArray} (h : L[k]? = some x) (e : isLb x = true) : lbsT (L.take (k + 1)) = lbsT (L.take k) ++ [x] := by
  rw [List.take_add_one, h, lbsT, lbsT, List.filter_append]
  simp only [Option.toList_some, List.filter_cons, List.filter_nil, e]; rfl
theorem lb_no {L : List ByteArray} {k : Nat} {x : ByteArray} (h : L[k]? = some x) (e : isLb x = false) : lbsT (L.take (k + 1)) = lbsT (L.take k) := by
  rw [List.take_add_one, h, lbsT, lbsT, List.filter_append]
  simp only [Option.toList_some, List.filter_cons, List.filter_nil, e]; simp
theorem lb_len (L : List ByteArray) (k : Nat) : (lbsT (L.take k)).length ≤ k := Nat.le_trans (List.length_filter_le _ _) (List.length_take_le _ _)
theorem lbsT_len (L : List ByteArray) : (lbsT L).length ≤ L.length := List.length_filter_le _ _
/-- The three words that a part may be, as the walks ask. -/
theorem lb_cases (x : ByteArray) : (isLb x = true ∧ ((x.toList == [109, 101, 116, 114, 105, 99]) = false ∧ (x.toList == [109, 101, 116, 114, 105, 99, 42]) = false ∧ (x.toList == [95]) = false)) ∨
    (isLb x = false ∧ ((x.toList == [109, 101, 116, 114, 105, 99]) = true ∨ ((x.toList == [109, 101, 116, 114, 105, 99]) = false ∧ (x.toList == [109, 101, 116, 114, 105, 99, 42]) = true) ∨ ((x.toList == [109, 101, 116, 114, 105, 99]) = false ∧ (x.toList == [109, 101, 116, 114, 105, 99, 42]) = false ∧ (x.toList == [95]) = true))) := by
  unfold isLb isM isT isK
  rw [ByteArray.toList_eq]
  cases h1 : (x.data.toList == [109, 101, 116, 114, 105, 99]) <;> cases h2 : (x.data.toList == [109, 101, 116, 114, 105, 99, 42]) <;> cases h3 : (x.data.toList == [95]) <;> simp
set_option maxRecDepth 100000 in
set_option maxHeartbeats 1600000 in
theorem labels_any (A : Option Addr) (n cap : Nat) (ps : List ByteArray) (w : World) (hl : IsRows strCell 1 w w.heap.size A n ps) (hn : n ≤ 2097152) :
    Calls Tryz.prog 233 #[.slice A n cap] w fun e w' => (∃ v, e = .returned v ∧ w'.ownsRow w.heap.size 9 1 v (lbsT ps).length ((lbsT ps).flatMap strCell)) ∧ Below w.heap.size w w' := by
  have hll := hl.1
  obtain ⟨i0, hi0, hz0, hz1, hz2⟩ := info_parts Tryz.infoString
  have hu : Tryz.prog.underlying 31 = some (.slice 9) := by kernel_rfl
  go_enter Tryz.func233, Tryz.ntmps233
  go_wp2_with fail
  go_loopw [3, 8] (fun o i wr => Below w.heap.size w wr ∧ ∃ k : Nat, k ≤ n ∧ i = .int .i64 k ∧ wr.ownsRow w.heap.size 9 1 o (lbsT (ps.take k)).length ((lbsT (ps.take k)).flatMap strCell)) (fun _ i _ => n - (intOf i).toNat)
  case atStart => exact ⟨Below.refl _ _, 0, by omega, rfl, World.ownsRow_nil _ _ _ _⟩
  case round =>
    obtain ⟨hbw, k, hk, rfl, hown⟩ := hrel
    have hwr := hbw.size
    by_cases hlt : k < n
    · have hdk : decide ((k : Int) < n) = true := decide_eq_true (by omega)
      have hk0 : (0 : Int) ≤ k := by omega
      have hk1 : (k : Int) < n := by omega
      obtain ⟨b, off, x, rfl, hgb, hx, e0⟩ := str_at (hl.below hbw) hlt
      have hol := lb_len ps k
      have hgw := Nat.lt_of_lt_of_le hgb hbw.size
      rcases lb_cases x with ⟨hq, h1, h2, h3⟩ | ⟨hq, h1 | ⟨h1, h2⟩ | ⟨h1, h2, h3⟩⟩
      · have hoy := lb_yes hx hq
        generalize lbsT (ps.take k) = O at *
        clear hq hx
        go_wp2_with (first
          | (at_builtin; go_loud (refine wpList_append_lies _ (by rfl) _ _ _ (by rfl) w.heap.size 9 i0 _ 1 16 hu hi0 hz0 hz1 hz2 rfl (by omega) _ O.length (O.flatMap strCell) (by rfl) (hown.alloc _) ⟨wr.heap.size, 0, none⟩ 1 1 [.string x] (by rfl) (by rfl) (World.news_of_block (blk_at (by simp))) (by simp [Value.oneCell']) (by omega) (by simp [maxLen]; omega) (by omega) (by simp; omega) (wr.heap.size + 1) (by simp) ?_); intro gg capg w4 hown4 hgrow hat hlt4))
        exact ⟨⟨(bl_alloc hbw _).grown hgrow (by simp; omega) (fun j e => (hown.lt _ e).1), k + 1, by omega, rfl, by (rw [hoy, List.length_append, List.flatMap_append]; exact hown4)⟩, by (simp only [intOf]; omega)⟩
      all_goals
        have hon := lb_no hx hq
        clear hq hx
        go_wp2_with fail
        exact ⟨⟨hbw, k + 1, by omega, rfl, by (rw [hon]; exact hown)⟩, by (simp only [intOf]; omega)⟩
    · have hdk : decide ((k : Int) < n) = false := decide_eq_false (by omega)
      obtain rfl : k = n := by omega
      rw [List.take_of_length_le (by omega)] at hown
      go_wp2_with fail
      go_ret
      exact ⟨⟨_, rfl, hown⟩, hbw⟩
/-! ### how often each is there -/
def litS (s : ByteArray) : Lit := .string s.data.toList
/-- A map that counts the first labels. -/
structure CM (D : DataW Unit) (ls : List ByteArray) : Prop where
  at_ : ∀ s : ByteArray, D.atKey (litS s) (.lit (.int .i64 0)) = .lit (.int .i64 (cntL ls s : Int))
  tidy : Maps.Tidy D
  has : ∀ s : ByteArray, Maps.has D (litS s) = ls.any fun p => p.data.toList == s.data.toList
  size : (ls.Pairwise fun x y => x.data.toList ≠ y.data.toList) → Maps.size D = ls.length
theorem CM.nil : CM (.map []) [] := ⟨fun s => rfl, Maps.tidy_empty, fun s => rfl, fun _ => rfl⟩
theorem litS_ne {s x : ByteArray} (h : s.data.toList ≠ x.data.toList) : litS s ≠ litS x := fun e => h (by unfold litS at e; injection e)
theorem CM.step {D : DataW Unit} {ls : List ByteArray} {x : ByteArray} {c : Int} (h : CM D ls) (hc : D.atKey (litS x) (.lit (.int .i64 0)) = .lit (.int .i64 c)) : CM (D.put (litS x) (.lit (.int .i64 (c + 1)))) (ls ++ [x]) := by
  have hk : WideAt.IsKeyLit (litS x) := trivial
  have e0 : c = (cntL ls x : Int) := by
    have := h.at_ x
    rw [hc] at this
    injection this with this
    injection this
  refine ⟨fun s => ?_, h.tidy.put hk _, fun s => ?_, fun hp => ?_⟩
  · by_cases e : s.data.toList = x.data.toList
    · have e1 : litS s = litS x := by unfold litS; rw [e]
      rw [e1, Maps.atKey_put_same h.tidy.isMap hk, e0]
      unfold cntL
      rw [List.countP_append, e, List.countP_singleton]
      simp
    · rw [Maps.atKey_put_other (litS_ne e), h.at_]
      unfold cntL
      rw [List.countP_append, List.countP_singleton, if_neg (by rw [beq_iff_eq]; exact fun k => e k.symm)]
      rfl
  · rw [List.any_append]
    by_cases e : s.data.toList = x.data.toList
    · have e1 : litS s = litS x := by unfold litS; rw [e]
      rw [e1, Maps.has_put_same h.tidy.isMap hk, e]
      simp
    · rw [Maps.has_put_other (litS_ne e), h.has]
      have : ([x].any fun p => p.data.toList == s.data.toList) = false := by
        rw [List.any_cons, List.any_nil, Bool.or_false, beq_eq_false_iff_ne]
        exact fun k => e k.symm
      rw [this, Bool.or_false]
  · rw [List.pairwise_append] at hp
    rw [Maps.size_put h.tidy, h.size hp.1, h.has, if_neg, List.length_append]
    · rfl
    · rw [List.any_eq_true]
      rintro ⟨p, hp1, hp2⟩
      exact hp.2.2 p hp1 x (by simp) (by simpa using hp2)
theorem mapLaw : Maps.Keyed Tryz.prog 9 := Maps.string_keyed Tryz.underlying9
theorem zeroInt (w : World) : (zeroValue 3).run Tryz.prog w = .ok (.int .i64 0) w := by kernel_rfl
theorem keyS {s : ByteArray} (h : s.size ≤ maxLen) : keyOf Tryz.prog 9 (.string s) = some (litS s) := Go.WideMaps.keyOf_string_mk Tryz.underlying9 h
/-- A map of the call's own that counts labels. -/
def Often (w : World) (B : Nat) (ls : List ByteArray) : Prop := ∃ D, w.ownsMap Tryz.prog 9 (plainElem Tryz.prog 3) B ls.length D ∧ CM D ls
theorem Often.below {w w' : World} {B B0 : Nat} {ls : List ByteArray} (h : Often w B ls) (hb : Below B0 w w') (hB : B < B0) : Often w' B ls := by
  obtain ⟨D, ⟨es, clock, hh, r⟩, hc⟩ := h
  exact ⟨D, ⟨es, clock, (hb.block B hB).trans hh, r⟩, hc⟩
theorem cnt_take {ls : List ByteArray} (k : Nat) (s : ByteArray) : cntL (ls.take k) s ≤ k := Nat.le_trans List.countP_le_length (List.length_take_le _ _)
set_option maxRecDepth 100000 in
set_option maxHeartbeats 1600000 in
theorem names_any (A : Option Addr) (n cap : Nat) (ps : List ByteArray) (w : World) (hl : IsRows strCell 1 w w.heap.size A n ps) (hn : n ≤ 2097152) (hsz : ∀ x ∈ ps, x.size ≤ maxLen) :
    Calls Tryz.prog 231 #[.slice A n cap] w fun e w' => e = .returned (.map (some w.heap.size)) ∧ Often w' w.heap.size (lbsT ps) ∧ Below w.heap.size w w' := by
  have hll := hl.1
  have hmm := @run_makeMap Tryz.prog
  have kL := labels_any A n cap ps (w.alloc (.map #[] 0)) ((hl.below ((Below.refl _ _).alloc (Nat.le_refl _) _)).more (by simp)) hn
  have hlen := lbsT_len ps
  have hsz2 : ∀ x ∈ lbsT ps, x.size ≤ maxLen := fun x hx => hsz x (List.mem_filter.1 hx).1
  generalize lbsT ps = ls at *
  go_enter Tryz.func231, Tryz.ntmps231
  go_wp2_with (go_at_call 233; refine kL.mono ?_; rintro e w1 ⟨⟨v, rfl, hown⟩, hb1⟩; obtain ⟨A1, c1, rfl, hr1⟩ := own_rws (f := strCell) (fun _ => rfl) hown rfl)
  have hb0 : Below w.heap.size w w1 := bl_any ((Below.refl _ _).alloc (Nat.le_refl _) _) hb1
  have hm0 : w1.ownsMap (H := Unit) Tryz.prog 9 (plainElem Tryz.prog 3) w.heap.size 0 (.map []) := by
    obtain ⟨es, clock, hh, r⟩ := World.ownsMap_made (H := Unit) w Tryz.prog 9 (plainElem Tryz.prog 3)
    exact ⟨es, clock, (hb1.block _ (by simp)).trans hh, r⟩
  have hlt0 : w.heap.size < w1.heap.size := by have := hb1.size; simp at this; omega
  have hbs : (w.alloc (.map #[] 0)).heap.size = w.heap.size + 1 := by simp
  rw [hbs] at hown
  clear kL hmm
  go_loopw [10] (fun i wr => Below w.heap.size w wr ∧ w1.heap.size ≤ wr.heap.size ∧ wr.ownsRow (w.heap.size + 1) 9 1 (.slice A1 ls.length c1) ls.length (ls.flatMap strCell) ∧ ∃ (k : Nat) (D : DataW Unit), k ≤ ls.length ∧ i = .int .i64 k ∧ wr.ownsMap Tryz.prog 9 (plainElem Tryz.prog 3) w.heap.size k D ∧ CM D (ls.take k)) (fun i _ => ls.length - (intOf i).toNat)
  case atStart => exact ⟨hb0, Nat.le_refl _, hown, 0, _, by omega, rfl, hm0, by rw [List.take_zero]; exact CM.nil⟩
  case round =>
    obtain ⟨hbw, hz, hrw, k, D, hk, rfl, hm, hc⟩ := hrel
    by_cases hlt : k < ls.length
    · have hdk : decide ((k : Int) < (ls.length : Int)) = true := decide_eq_true (by omega)
      have hk0 : (0 : Int) ≤ k := by omega
      have hk1 : (k : Int) < (ls.length : Int) := by omega
      have hbk : ∀ g, (Value.slice A1 ls.length c1).ownBlock = some g → w.heap.size + 1 ≤ g := fun g hg => (hrw.lt g hg).1
      obtain ⟨_, _, hAA, hrr⟩ := own_rws (f := strCell) (fun _ => rfl) hrw rfl
      injection hAA with e1 e2 e3
      subst e1
      clear e2 e3
      obtain ⟨b, off, x, rfl, hgb, hx, e0⟩ := str_at hrr hlt
      have hkey := keyS (hsz2 x (List.mem_of_getElem? hx))
      have hxk : ls.take (k + 1) = ls.take k ++ [x] := by rw [List.take_add_one, hx]; rfl
      have hck := cnt_take (ls := ls) k x
      go_wp2_with (first
        | (at_lookup; refine wpList_lookup_own_int _ rfl _ _ 284 rfl 9 3 .i64 mapLaw Tryz.underlying284 Tryz.underlying3 (zeroInt _) w.heap.size k _ rfl hm _ _ rfl hkey ?_; intro c hat hwc)
        | (at_mapUpdate; refine wpList_mapUpdate_own _ rfl _ _ _ 284 rfl 9 3 mapLaw Tryz.underlying284 _ w.heap.size k _ rfl hm (by unfold maxLen; omega) _ _ _ rfl rfl hkey _ [] (plainElem_int Tryz.underlying3 (wrap64_wf _)) ?_; intro w2 hm2 hg2))
      have hs3 := hc.step hat
      have ec : c = (cntL (ls.take k) x : Int) := by
        have h4 := hc.at_ x
        rw [hat] at h4
        injection h4 with h4
        injection h4
      have ew : wrap64 (c + 1) = c + 1 := by
        unfold wrap64; omega
      rw [ew] at hm2
      have hmk := hg2.size
      exact ⟨⟨hbw.grown hg2 hbw.size (fun j e => by cases e; omega), by omega, hrw.kept hg2 (.inr fun e => by have := hbk _ e; omega), k + 1, _, by omega, rfl, hm2, by rw [hxk]; exact hs3⟩, by (simp only [intOf]; omega)⟩
    · have hdk : decide ((k : Int) < (ls.length : Int)) = false := decide_eq_false (by omega)
      obtain rfl : k = ls.length := by omega
      rw [List.take_length] at hc
      go_wp2_with fail
      go_ret
      exact ⟨rfl, ⟨D, hm, hc⟩, hbw⟩
end
section
theorem maxLen_is : maxLen = 9223372036854775807 := by decide
theorem Often.aw {S : List Nat} {w w' : World} {B : Nat} {ls : List ByteArray} (h : Often w B ls) (k : Aw S w w') (hB : B ∉ S) : Often w' B ls := by
  obtain ⟨D, ⟨es, clock, hh, r⟩, hc⟩ := h
  have hlt : B < w.heap.size := by
    rcases Nat.lt_or_ge B w.heap.size with h' | h'
    · exact h'
    · rw [Array.getElem?_eq_none h'] at hh; cases hh
  exact ⟨D, ⟨es, clock, (k.block B hlt hB).trans hh, r⟩, hc⟩
theorem Often.bel {w w' : World} {B B0 : Nat} {ls : List ByteArray} (h : Often w B ls) (hb : Below B0 w w') (hB : B < B0) : Often w' B ls := h.below hb hB
/-! ### a look-up behind a guard -/
theorem wpList_wanted {P : Program} {ops : Array Oper} {Q : Exit → Act → World → Prop} {a : Act} {w : World} {rest : List Oper} {o : Oper} (hw : Region.wanted o (yielded ops a.tmps) = true)
    (h : ∀ K : Act → World → Prop, (∀ a w, wpList P ops Q rest a w → K a w) → o.wp P a w K Q) : wpList P ops Q (o :: rest) a w :=
  wpList_step fun K hK => by rw [if_pos hw]; exact h K hK
theorem wpList_lookup_wanted {H : Type} {P : Program} (w : World) {ops : Array Oper} {rest : List Oper} {o : Oper} {a : Act} {Q : Exit → Act → World → Prop}
    (hw : Region.wanted o (yielded ops a.tmps) = true) (m x : Operand) (t : TypeId) (hop : o.op = Op.lookup t m x false)
    (k e : TypeId) (q : IntKind) (K : Maps.Keyed P k) (ht : P.underlying t = some (.map k e)) (he : P.underlying e = some (.int q)) (hz : (zeroValue e).run P w = .ok (.int q 0) w) (b n : Nat) (D : DataW H)
    (hm : a.eval m = .map (some b)) (hown : w.ownsMap P k (plainElem P e) b n D) (key : Value) (kl : Lit) (hx : a.eval x = key) (hkey : keyOf P k key = some kl)
    (hK : ∀ c : Int, D.atKey kl (.lit (.int q 0)) = .lit (.int q c) → (Lit.int q c).wf = true → wpList P ops Q rest (a.put o.dst (.int q c)) w) :
    wpList P ops Q (o :: rest) a w := by
  refine wpList_wanted hw fun K' hK' => ?_
  obtain ⟨c, hrun, hat, hwc⟩ := hown.lookup_int K ht he hz hkey
  unfold Oper.wp
  simp [execOp, hop, hm, hx, hrun, Result.andThen]
  exact hK' _ _ (hK c hat hwc)
/-! ### the closures -/
theorem goodClo_any (x : ByteArray) (w : World) (hx : x.size ≤ 9223372036854775807) : Calls Tryz.prog 192 #[.string x] w fun e w' => e = .returned (.bool (wrongF x)) ∧ w' = w := by
  have k := fun W => isText_any x W hx
  have HB : Hid (wrongF x = (!isE x && !textB x)) := Lib.hid rfl
  have HE : Hid (isE x = (x.toList == [42])) := Lib.hid (by unfold isE; rw [ByteArray.toList_eq])
  generalize textB x = Q at k HB
  cases he : (x.toList == [42])
  · go_enter Tryz.func192, Tryz.ntmps192
    go_wp2_with (go_at_call 193; refine (k _).mono ?_; rintro e w1 ⟨rfl, hw1⟩; rw [hw1]; clear hw1 w1)
    go_ret
    exact ⟨ret_bool (by rw [HB.out, HE.out, he]; rfl), rfl⟩
  · go_enter Tryz.func192, Tryz.ntmps192
    go_wp2_with fail
    go_ret
    exact ⟨ret_bool (by rw [HB.out, HE.out, he]; rfl), rfl⟩
set_option maxRecDepth 100000 in
theorem partClo_any (x : ByteArray) (cb B : Nat) (ls : List ByteArray) (w : World) (hx : x.size ≤ 9223372036854775807) (hcb : Blk w cb 284 #[.map (some B)]) (hO : Often w B ls) :
    Calls Tryz.prog 232 #[.string x, .pointer (some ⟨cb, 0, none⟩)] w fun e w' => e = .returned (.bool (wrongP ls x)) ∧ w' = w := by
  have k := fun W => isText_any x W hx
  have HB : Hid (wrongP ls x = (!textB x || decide (1 < cntL ls x))) := Lib.hid rfl
  generalize textB x = Q at k HB
  have q0 := (Blk.cell hcb 0).trans rfl
  obtain ⟨D, hm, hc⟩ := hO
  have hkey := keyS (s := x) (by rw [maxLen_is]; exact hx)
  cases Q
  · go_enter Tryz.func232, Tryz.ntmps232
    go_wp2_with (go_at_call 193; refine (k _).mono ?_; rintro e w1 ⟨rfl, hw1⟩; rw [hw1]; clear hw1 w1)
    go_ret
    exact ⟨ret_bool (by rw [HB.out]; rfl), rfl⟩
  · go_enter Tryz.func232, Tryz.ntmps232
    go_wp2_with (first
      | (go_at_call 193; refine (k _).mono ?_; rintro e w1 ⟨rfl, hw1⟩; rw [hw1]; clear hw1 w1)
      | (at_lookup; refine wpList_lookup_wanted _ (by first | rfl | (simp [Region.wanted, yielded]; done)) _ _ 284 rfl 9 3 .i64 mapLaw Tryz.underlying284 Tryz.underlying3 (zeroInt _) B ls.length D rfl hm _ _ rfl hkey ?_; intro c hat hwc))
    have ec : c = (cntL ls x : Int) := by
      have h4 := hc.at_ x
      rw [hat] at h4
      injection h4 with h4
      injection h4
    go_ret
    exact ⟨ret_bool (by rw [HB.out, ec]; apply bcl; simp; omega), rfl⟩
theorem any_no {l : List ByteArray} {p : ByteArray → Bool} (h : ∀ (j : Nat) (x : ByteArray), l[j]? = some x → p x = false) : l.any p = false := by
  rw [List.any_eq_false]
  intro x hx
  obtain ⟨j, hj, rfl⟩ := List.getElem_of_mem hx
  rw [h j _ (List.getElem?_eq_getElem hj)]; simp
theorem any_yes {l : List ByteArray} {p : ByteArray → Bool} {j : Nat} {x : ByteArray} (h : l[j]? = some x) (hp : p x = true) : l.any p = true := List.any_eq_true.2 ⟨x, List.mem_of_getElem? h, hp⟩
set_option maxHeartbeats 1600000 in
theorem sidx_good (cb : Nat) (A : Option Addr) (n cap B : Nat) (names : List ByteArray) (p : ByteArray → Bool) (w : World) (hl : IsRows strCell 1 w B A n names) (hn : n ≤ 2097152)
    (hp : ∀ x ∈ names, Calls Tryz.prog 192 #[.string x] w fun e w' => e = .returned (.bool (p x)) ∧ w' = w) :
    Calls Tryz.prog 230 #[.slice A n cap, .func (.func 192) #[] #[]] w fun e w' => (∃ r : Int, e = .returned (.int .i64 r) ∧ decide (0 ≤ r) = names.any p) ∧ w' = w := by
  have hll := hl.1
  have HP := Lib.hid hp
  clear hp
  go_enter Tryz.func230, Tryz.ntmps230
  go_wp2_with fail
  go_loop [8] (fun i => ∃ k : Nat, k ≤ n ∧ i = .int .i64 k ∧ Hid (∀ j x, j < k → names[j]? = some x → p x = false)) (fun i => n - (intOf i).toNat)
  case atStart => exact ⟨0, by omega, rfl, Lib.hid (fun j x h => by omega)⟩
  case round =>
    obtain ⟨k, hk, rfl, HG⟩ := hrel
    by_cases hlt : k < n
    · have hd : decide ((k : Int) < n) = true := decide_eq_true (by omega)
      have hk0 : (0 : Int) ≤ k := by omega
      have hk1 : (k : Int) < n := by omega
      obtain ⟨b, off, x, rfl, hgb, hx, e0⟩ := str_at hl hlt
      have kP := HP.out x (List.mem_of_getElem? hx)
      cases hq : p x
      · rw [hq] at kP
        have HF : Hid (∀ j x, j < k + 1 → names[j]? = some x → p x = false) := Lib.hid (fun j y hj hy => by
          by_cases e : j = k
          · subst e; rw [hx] at hy; injection hy with hy; rw [← hy]; exact hq
          · exact HG.out j y (by omega) hy)
        clear hq HG hx
        go_wp2_with (go_at_call 192; (with_reducible refine kP.mono ?_); rintro e w1 ⟨rfl, hw1⟩; rw [hw1]; clear hw1 w1)
        exact ⟨⟨k + 1, by omega, rfl, HF⟩, by (simp only [intOf]; omega)⟩
      · rw [hq] at kP
        have HF : Hid (names.any p = true) := Lib.hid (any_yes hx hq)
        clear hq HG hx
        go_wp2_with (go_at_call 192; (with_reducible refine kP.mono ?_); rintro e w1 ⟨rfl, hw1⟩; rw [hw1]; clear hw1 w1)
        go_ret
        exact ⟨⟨k, rfl, by rw [HF.out]; exact decide_eq_true (by omega)⟩, rfl⟩
    · have hd : decide ((k : Int) < n) = false := decide_eq_false (by omega)
      have HF : Hid (names.any p = false) := Lib.hid (any_no (fun j x hx => HG.out j x (by have := (List.getElem?_eq_some_iff.1 hx).1; omega) hx))
      clear HG
      go_wp2_with fail
      go_ret
      exact ⟨⟨-1, rfl, by rw [HF.out]; rfl⟩, rfl⟩
theorem scon_good (cb : Nat) (A : Option Addr) (n cap B : Nat) (names : List ByteArray) (p : ByteArray → Bool) (w : World) (hl : IsRows strCell 1 w B A n names) (hn : n ≤ 2097152)
    (hp : ∀ x ∈ names, Calls Tryz.prog 192 #[.string x] w fun e w' => e = .returned (.bool (p x)) ∧ w' = w) :
    Calls Tryz.prog 194 #[.slice A n cap, .func (.func 192) #[] #[]] w fun e w' => e = .returned (.bool (names.any p)) ∧ w' = w := by
  have kI := sidx_good cb A n cap B names p w hl hn hp
  clear hp
  go_enter Tryz.func194, Tryz.ntmps194
  go_wp2_with (go_at_call 230; (with_reducible refine kI.mono ?_); rintro e w1 ⟨⟨r, rfl, hr⟩, hw1⟩; rw [hw1]; clear hw1 w1)
  go_ret
  first | exact ⟨ret_bool hr, rfl⟩ | exact ⟨rfl, rfl⟩
set_option maxHeartbeats 1600000 in
theorem sidx_part (cb : Nat) (A : Option Addr) (n cap B : Nat) (names : List ByteArray) (p : ByteArray → Bool) (w : World) (hl : IsRows strCell 1 w B A n names) (hn : n ≤ 2097152)
    (hp : ∀ x ∈ names, Calls Tryz.prog 232 #[.string x,.pointer (some ⟨cb,0,none⟩)] w fun e w' => e = .returned (.bool (p x)) ∧ w' = w) :
    Calls Tryz.prog 230 #[.slice A n cap, .func (.func 232) #[] #[.pointer (some ⟨cb,0,none⟩)]] w fun e w' => (∃ r : Int, e = .returned (.int .i64 r) ∧ decide (0 ≤ r) = names.any p) ∧ w' = w := by
  have hll := hl.1
  have HP := Lib.hid hp
  clear hp
  go_enter Tryz.func230, Tryz.ntmps230
  go_wp2_with fail
  go_loop [8] (fun i => ∃ k : Nat, k ≤ n ∧ i = .int .i64 k ∧ Hid (∀ j x, j < k → names[j]? = some x → p x = false)) (fun i => n - (intOf i).toNat)
  case atStart => exact ⟨0, by omega, rfl, Lib.hid (fun j x h => by omega)⟩
  case round =>
    obtain ⟨k, hk, rfl, HG⟩ := hrel
    by_cases hlt : k < n
    · have hd : decide ((k : Int) < n) = true := decide_eq_true (by omega)
      have hk0 : (0 : Int) ≤ k := by omega
      have hk1 : (k : Int) < n := by omega
      obtain ⟨b, off, x, rfl, hgb, hx, e0⟩ := str_at hl hlt
      have kP := HP.out x (List.mem_of_getElem? hx)
      cases hq : p x
      · rw [hq] at kP
        have HF : Hid (∀ j x, j < k + 1 → names[j]? = some x → p x = false) := Lib.hid (fun j y hj hy => by
          by_cases e : j = k
          · subst e; rw [hx] at hy; injection hy with hy; rw [← hy]; exact hq
          · exact HG.out j y (by omega) hy)
        clear hq HG hx
        go_wp2_with (go_at_call 232; (with_reducible refine kP.mono ?_); rintro e w1 ⟨rfl, hw1⟩; rw [hw1]; clear hw1 w1)
        exact ⟨⟨k + 1, by omega, rfl, HF⟩, by (simp only [intOf]; omega)⟩
      · rw [hq] at kP
        have HF : Hid (names.any p = true) := Lib.hid (any_yes hx hq)
        clear hq HG hx
        go_wp2_with (go_at_call 232; (with_reducible refine kP.mono ?_); rintro e w1 ⟨rfl, hw1⟩; rw [hw1]; clear hw1 w1)
        go_ret
        exact ⟨⟨k, rfl, by rw [HF.out]; exact decide_eq_true (by omega)⟩, rfl⟩
    · have hd : decide ((k : Int) < n) = false := decide_eq_false (by omega)
      have HF : Hid (names.any p = false) := Lib.hid (any_no (fun j x hx => HG.out j x (by have := (List.getElem?_eq_some_iff.1 hx).1; omega) hx))
      clear HG
      go_wp2_with fail
      go_ret
      exact ⟨⟨-1, rfl, by rw [HF.out]; rfl⟩, rfl⟩
theorem scon_part (cb : Nat) (A : Option Addr) (n cap B : Nat) (names : List ByteArray) (p : ByteArray → Bool) (w : World) (hl : IsRows strCell 1 w B A n names) (hn : n ≤ 2097152)
    (hp : ∀ x ∈ names, Calls Tryz.prog 232 #[.string x,.pointer (some ⟨cb,0,none⟩)] w fun e w' => e = .returned (.bool (p x)) ∧ w' = w) :
    Calls Tryz.prog 194 #[.slice A n cap, .func (.func 232) #[] #[.pointer (some ⟨cb,0,none⟩)]] w fun e w' => e = .returned (.bool (names.any p)) ∧ w' = w := by
  have kI := sidx_part cb A n cap B names p w hl hn hp
  clear hp
  go_enter Tryz.func194, Tryz.ntmps194
  go_wp2_with (go_at_call 230; (with_reducible refine kI.mono ?_); rintro e w1 ⟨⟨r, rfl, hr⟩, hw1⟩; rw [hw1]; clear hw1 w1)
  go_ret
  first | exact ⟨ret_bool hr, rfl⟩ | exact ⟨rfl, rfl⟩
/-! ### parts -/
theorem tail_no {ps : List ByteArray} {j : Nat} {x : ByteArray} (h : ps[j]? = some x) (hj : j + 1 < ps.length) (hx : isT x = true) : tailOk ps = false := by
  unfold tailOk
  have : ps.dropLast.any isT = true := List.any_eq_true.2 ⟨x, List.mem_of_getElem? (i := j) (by rw [List.getElem?_dropLast, if_pos (by omega)]; exact h), hx⟩
  rw [this]; rfl
theorem tail_yes {ps : List ByteArray} (h : ∀ j x, j + 1 < ps.length → ps[j]? = some x → isT x = false) : tailOk ps = true := by
  unfold tailOk
  have : ps.dropLast.any isT = false := any_no (fun j x hx => by
    rw [List.getElem?_dropLast] at hx
    split at hx
    · exact h j x (by omega) hx
    · cases hx)
  rw [this]; rfl
theorem named_succ {ps : List ByteArray} {k : Nat} {x : ByteArray} (h : ps[k]? = some x) : namedB (ps.take (k + 1)) = (namedB (ps.take k) || (isM x || isT x)) := by
  unfold namedB
  rw [List.take_add_one, h, List.any_append]
  simp
set_option maxRecDepth 100000 in
set_option maxHeartbeats 3200000 in
theorem isParts_any (A : Option Addr) (n cap : Nat) (ps : List ByteArray) (w : World) (hl : IsRows strCell 1 w w.heap.size A n ps) (hn : n ≤ 2097152) (hsz : ∀ x ∈ ps, x.size ≤ 9223372036854775807) :
    Calls Tryz.prog 195 #[.slice A n cap] w fun e w' => e = .returned (.bool (partsB ps)) ∧ Below w.heap.size w w' := by
  have hll := hl.1
  have hmf : ∀ (fn : Fn) (first cap : Array Value) (w : World), (Instr.makeFunc fn first cap).run Tryz.prog w = .ok (.func fn first cap) w := fun _ _ _ _ => rfl
  have kN := names_any A n cap ps w hl hn (fun x hx => by rw [maxLen_is]; exact hsz x hx)
  have kL := fun W (hb : Below w.heap.size w W) => labels_any A n cap ps W ((hl.below hb).more hb.size) hn
  have kC := fun W cb A3 c3 B (hr : IsRows strCell 1 W W.heap.size A3 (lbsT ps).length (lbsT ps)) (hcb : Blk W cb 284 #[.map (some B)]) (hO : Often W B (lbsT ps)) =>
    scon_part cb A3 (lbsT ps).length c3 W.heap.size (lbsT ps) (wrongP (lbsT ps)) W hr (by have := lbsT_len ps; omega) (fun x hx => partClo_any x cb B (lbsT ps) W (hsz x (List.mem_filter.1 hx).1) hcb hO)
  have HB : Hid (partsB ps = (tailOk ps && (namedB ps && (decide (ps.length ≤ 12) && !(lbsT ps).any (wrongP (lbsT ps)))))) := Lib.hid rfl
  have H0 : Hid (false = namedB (ps.take 0)) := Lib.hid (by rw [List.take_zero]; rfl)
  clear hsz
  generalize (lbsT ps).any (wrongP (lbsT ps)) = Z at kC HB
  generalize lbsT ps = ls at *
  go_enter Tryz.func195, Tryz.ntmps195
  go_wp2_with fail
  go_loop [3, 10] (fun q i => ∃ (b : Bool) (k : Nat), k ≤ n ∧ q = .bool b ∧ i = .int .i64 k ∧ Hid (b = namedB (ps.take k)) ∧ Hid (∀ j x, j < k → j + 1 < ps.length → ps[j]? = some x → isT x = false)) (fun _ i => n - (intOf i).toNat)
  case atStart => exact ⟨false, 0, by omega, rfl, rfl, H0, Lib.hid (fun j x h => by omega)⟩
  case round =>
    obtain ⟨b, k, hk, rfl, rfl, HN, HT⟩ := hrel
    clear H0
    by_cases hlt : k < n
    · have hd : decide ((k : Int) < n) = true := decide_eq_true (by omega)
      have hk0 : (0 : Int) ≤ k := by omega
      have hk1 : (k : Int) < n := by omega
      have hw1 : IntKind.i64.wrap ((n : Int) - 1) = (n : Int) - 1 := IntWalk.i64_in _ (by omega)
      obtain ⟨bk, off, x, rfl, hgb, hx, e0⟩ := str_at hl hlt
      have HS := Lib.hid (named_succ hx)
      have HM : Hid (isM x = (x.toList == [109, 101, 116, 114, 105, 99])) := Lib.hid (by unfold isM; rw [ByteArray.toList_eq])
      have HE : Hid (isT x = (x.toList == [109, 101, 116, 114, 105, 99, 42])) := Lib.hid (by unfold isT; rw [ByteArray.toList_eq])
      clear kN kL kC hmf
      cases ht : (x.toList == [109, 101, 116, 114, 105, 99, 42])
      · have HT2 : Hid (∀ j x, j < k + 1 → j + 1 < ps.length → ps[j]? = some x → isT x = false) := Lib.hid (fun j y hj hj2 hy => by
          by_cases e : j = k
          · subst e; rw [hx] at hy; injection hy with hy; rw [← hy, HE.out]; exact ht
          · exact HT.out j y (by omega) hj2 hy)
        clear HT HB hx
        cases b <;> cases hm : (x.toList == [109, 101, 116, 114, 105, 99])
        all_goals
          go_wp2_with fail
          exact ⟨⟨_, k + 1, by omega, rfl, rfl, Lib.hid (by rw [HS.out, ← HN.out, HM.out, HE.out, hm, ht]; rfl), HT2⟩, by (simp only [intOf]; omega)⟩
      · by_cases hlast : k + 1 < n
        · have hd2 : decide ((k : Int) < (n : Int) - 1) = true := decide_eq_true (by omega)
          have HF : Hid (partsB ps = false) := Lib.hid (by rw [HB.out, tail_no hx (by omega) (by rw [HE.out]; exact ht)]; rfl)
          clear HT HB hx
          cases b <;> cases hm : (x.toList == [109, 101, 116, 114, 105, 99])
          all_goals
            go_wp2_with fail
            go_ret
            exact ⟨ret_bool HF.out.symm, Below.refl _ _⟩
        · have hd2 : decide ((k : Int) < (n : Int) - 1) = false := decide_eq_false (by omega)
          have HT2 : Hid (∀ j x, j < k + 1 → j + 1 < ps.length → ps[j]? = some x → isT x = false) := Lib.hid (fun j y hj hj2 hy => HT.out j y (by omega) hj2 hy)
          clear HT HB hx
          cases b <;> cases hm : (x.toList == [109, 101, 116, 114, 105, 99])
          all_goals
            go_wp2_with fail
            exact ⟨⟨_, k + 1, by omega, rfl, rfl, Lib.hid (by rw [HS.out, ← HN.out, HM.out, HE.out, hm, ht]; rfl), HT2⟩, by (simp only [intOf]; omega)⟩
    · have hd : decide ((k : Int) < n) = false := decide_eq_false (by omega)
      have HT3 : Hid (tailOk ps = true) := Lib.hid (tail_yes (fun j x hj hx => HT.out j x (by omega) hj hx))
      have hN : b = namedB ps := by rw [HN.out, List.take_of_length_le (by omega)]
      have HN2 := Lib.hid hN
      clear HT HN hN
      cases b
      · clear kL kC
        go_wp2_with (go_at_call 231; refine kN.mono ?_; rintro e w1 ⟨rfl, hO1, hb1⟩)
        go_ret
        exact ⟨ret_bool (by rw [HB.out, ← HN2.out, HT3.out]; rfl), bl_alloc hb1 _⟩
      · by_cases h12 : n ≤ 12
        · have hd12 : decide ((n : Int) ≤ 12) = true := decide_eq_true (by omega)
          go_wp2_with (first
            | (go_at_call 231; refine kN.mono ?_; rintro e w1 ⟨rfl, hO1, hb1⟩; have hcb := Blk.new w1 284 #[.map (some w.heap.size)]; have hbX := bl_alloc hb1 (.cells #[.map (some w.heap.size)] 284); have hO2 := hO1.bel ((Below.refl w1.heap.size w1).alloc (Nat.le_refl _) (.cells #[.map (some w.heap.size)] 284)) (by obtain ⟨D, hm, _⟩ := hO1; exact hm.lt))
            | (go_at_call 233; refine (kL _ hbX).mono ?_; rintro e w3 ⟨⟨v, rfl, hown⟩, hb3⟩; obtain ⟨A3, c3, rfl, hr3⟩ := own_rws (f := strCell) (fun _ => rfl) hown rfl; have hcb3 := hcb.below hb3 (Blk.lt hcb); have hO3 := hO2.bel hb3 (by obtain ⟨D, hm, _⟩ := hO2; exact hm.lt))
            | (go_at_call 194; refine (kC _ _ _ _ _ hr3 hcb3 hO3).mono ?_; rintro e w4 ⟨rfl, hw4⟩; rw [hw4]; clear hw4 w4))
          go_ret
          exact ⟨ret_bool (by rw [HB.out, ← HN2.out, HT3.out, decide_eq_true (by omega : ps.length ≤ 12)]; simp), bl_any hbX hb3⟩
        · have hd12 : decide ((n : Int) ≤ 12) = false := decide_eq_false (by omega)
          clear kL kC
          go_wp2_with (go_at_call 231; refine kN.mono ?_; rintro e w1 ⟨rfl, hO1, hb1⟩)
          go_ret
          exact ⟨ret_bool (by rw [HB.out, ← HN2.out, HT3.out, decide_eq_false (by omega : ¬ ps.length ≤ 12)]; rfl), bl_alloc hb1 _⟩
/-! ### labels beside them -/
theorem nodup_cnt {ls : List ByteArray} (h : ∀ x ∈ ls, cntL ls x ≤ 1) : ls.Pairwise fun x y => x.data.toList ≠ y.data.toList := by
  rw [← List.pairwise_map (f := fun x : ByteArray => x.data.toList) (R := fun a b => a ≠ b)]
  show (ls.map fun x : ByteArray => x.data.toList).Nodup
  rw [List.nodup_iff_count]
  intro a
  by_cases ha : a ∈ ls.map fun x : ByteArray => x.data.toList
  · obtain ⟨x, hx, rfl⟩ := List.mem_map.1 ha
    have := h x hx
    unfold cntL at this
    rw [List.count, List.countP_map]
    exact this
  · rw [List.count_eq_zero_of_not_mem ha]; omega
theorem parts_nodup {ps : List ByteArray} (h : partsB ps = true) : (lbsT ps).Pairwise fun x y => x.data.toList ≠ y.data.toList := by
  refine nodup_cnt (fun x hx => ?_)
  unfold partsB at h
  simp only [Bool.and_eq_true, Bool.not_eq_true', List.any_eq_false] at h
  have h1 := h.2.2.2 x hx
  unfold wrongP at h1
  simp only [Bool.or_eq_true, Bool.not_eq_true', decide_eq_true_eq, not_or] at h1
  omega
theorem extraTo_succ (ps : List ByteArray) (L : List Lab) (k : Nat) : extraTo ps L (k + 1) = (extraTo ps L k && extraAt ps L k) := by
  unfold extraTo; rw [List.range_succ, List.all_append]; simp
theorem extra_no {ps : List ByteArray} {L : List Lab} {k : Nat} (h : extraAt ps L k = false) (hk : k < L.length) : extraB L ps = false := by
  unfold extraB extraTo
  have : (List.range L.length).all (extraAt ps L) = false := by
    rw [List.all_eq_false]
    exact ⟨k, List.mem_range.2 hk, by rw [h]; exact Bool.false_ne_true⟩
  rw [this]; rfl
theorem extraAt_of {ps : List ByteArray} {L : List Lab} {k : Nat} {x y : ByteArray} (h : L[k]? = some (x, y)) : extraAt ps L k = ((decide (k = 0) || decide (nmL (L.getD (k - 1) default) < x.data.toList)) && (textB x && (inksB tmInk y.data.toList && (decide (y.size ≤ 60) && decide (cntL (lbsT ps) x = 0))))) := by
  unfold extraAt
  rw [List.getD_eq_getElem?_getD (i := k), h]; rfl
theorem cm_at {D : DataW Unit} {ls : List ByteArray} {x : ByteArray} {c : Int} (h : CM D ls) (hat : D.atKey (litS x) (.lit (.int .i64 0)) = .lit (.int .i64 c)) : c = (cntL ls x : Int) := by
  have h4 := h.at_ x
  rw [hat] at h4
  injection h4 with h4
  injection h4
theorem isText_q (s : ByteArray) (w : World) (hs : s.size ≤ 9223372036854775807) : Calls Tryz.prog 193 #[.string s] w fun e w' => e = .returned (.bool (textB s)) ∧ w = w' := (isText_any s w hs).mono fun _ _ ⟨h1, h2⟩ => ⟨h1, h2.symm⟩
theorem inks_q (s : ByteArray) (w : World) (hs : s.size ≤ 9223372036854775807) : Calls Tryz.prog 228 #[.string s, .func (.func 234) #[] #[]] w fun e w' => e = .returned (.bool (inksB tmInk s.data.toList)) ∧ w = w' := (inks_ink s w hs).mono fun _ _ ⟨h1, h2⟩ => ⟨h1, h2.symm⟩
theorem wrap8 {a : Nat} (h : a ≤ 16777216) : IntKind.i64.wrap (a : Int) = a := IntWalk.i64_in _ (by omega)
set_option maxRecDepth 100000 in
set_option maxHeartbeats 3200000 in
theorem isExtra_any (A : Option Addr) (n cap : Nat) (L : List Lab) (A2 : Option Addr) (n2 cap2 : Nat) (ps : List ByteArray) (w : World) (hl : IsRows labCell 2 w w.heap.size A n L) (hn : n ≤ 2097152) (hl2 : IsRows strCell 1 w w.heap.size A2 n2 ps) (hn2 : n2 ≤ 2097152)
    (hsz : ∀ x ∈ ps, x.size ≤ 9223372036854775807) (hsz2 : ∀ x ∈ L, x.1.size ≤ 9223372036854775807 ∧ x.2.size ≤ 9223372036854775807) (hnd : (lbsT ps).Pairwise fun x y => x.data.toList ≠ y.data.toList) :
    Calls Tryz.prog 196 #[.slice A n cap, .slice A2 n2 cap2] w fun e w' => e = .returned (.bool (extraB L ps)) ∧ Below w.heap.size w w' := by
  have hll := hl.1
  have hll2 := hl2.1
  have kN := names_any A2 n2 cap2 ps w hl2 hn2 (fun x hx => by rw [maxLen_is]; exact hsz x hx)
  have hlen := lbsT_len ps
  have HE : ∀ k, k ≤ n → Hid (extraTo ps L k = true → k = n → extraB L ps = decide (L.length + (lbsT ps).length ≤ 8)) := fun k hk => Lib.hid (fun h1 h2 => by unfold extraB; rw [hll, ← h2, h1, Bool.true_and])
  have hX : ∀ k x y, L[k]? = some (x, y) → Hid (extraAt ps L k = ((decide (k = 0) || decide (nmL (L.getD (k - 1) default) < x.data.toList)) && (textB x && (inksB tmInk y.data.toList && (decide (y.size ≤ 60) && decide (cntL (lbsT ps) x = 0)))))) := fun k x y h => Lib.hid (extraAt_of h)
  clear hsz
  generalize lbsT ps = ls at *
  go_enter Tryz.func196, Tryz.ntmps196
  go_wp2_with (go_at_call 231; refine kN.mono ?_; rintro e w1 ⟨rfl, hO1, hb1⟩)
  have hlt1 : w.heap.size < w1.heap.size := by obtain ⟨D, hm, _⟩ := hO1; exact hm.lt
  clear kN
  go_loopw [12] (fun i wr => Below w.heap.size w wr ∧ Often wr w.heap.size ls ∧ ∃ k : Nat, k ≤ n ∧ i = .int .i64 k ∧ Hid (extraTo ps L k = true)) (fun i _ => n - (intOf i).toNat)
  case atStart => exact ⟨hb1, hO1, 0, by omega, rfl, Lib.hid rfl⟩
  case round =>
    obtain ⟨hbw, hO, k, hk, rfl, HG⟩ := hrel
    clear hO1 hb1
    obtain ⟨D, hm, hc⟩ := hO
    have hBw := hm.lt
    by_cases hlt : k < n
    · have hdk : decide ((k : Int) < n) = true := decide_eq_true (by omega)
      have hk0 : (0 : Int) ≤ k := by omega
      have hk1 : (k : Int) < n := by omega
      obtain ⟨b, off, x, y, rfl, hgb, hx, e0, e1⟩ := lab_at (hl.below hbw) hlt
      have hgw := Nat.lt_of_lt_of_le hgb hbw.size
      obtain ⟨hxs, hys⟩ := hsz2 _ (List.mem_of_getElem? hx)
      have HX := hX k x y hx
      have hkey := keyS (s := x) (by rw [maxLen_is]; exact hxs)
      have kT := fun W => isText_q x W hxs
      have kI := fun W => inks_q y W hys
      generalize textB x = qt at kT HX
      generalize inksB tmInk y.data.toList = qi at kI HX
      clear hX HE
      go_wp2_with fail
      have hB := Blk.new wr 118 #[.string x, .string y]
      have c0 := (hB.cell 0).trans rfl
      have c1 := (hB.cell 1).trans rfl
      have hbX := bl_alloc hbw (.cells #[.string x, .string y] 118)
      have HMX := Lib.hid (hm.alloc (.cells #[.string x, .string y] 118))
      have HC := Lib.hid hc
      have HKY := Lib.hid hkey
      clear hm hc hkey hB
      by_cases h0 : k = 0
      · subst h0
        have HY : Hid (extraAt ps L 0 = (qt && (qi && (decide (y.size ≤ 60) && decide (cntL ls x = 0))))) := Lib.hid (by rw [HX.out]; simp)
        clear HX hx
        cases qt
        · clear kI
          have HF := Lib.hid (extra_no (ps := ps) (L := L) (k := 0) (by rw [HY.out]; simp; try omega) (by omega))
          clear HY HG
          go_quiet (first | (go_at_call 193; exact quiet_left (kT _)))
          go_wp2_with fail
          go_ret
          exact ⟨ret_bool HF.out.symm, bl_drewN hbX _⟩
        · cases qi
          · skip
            have HF := Lib.hid (extra_no (ps := ps) (L := L) (k := 0) (by rw [HY.out]; simp; try omega) (by omega))
            clear HY HG
            go_quiet (first | (go_at_call 193; exact quiet_left (kT _)) | (go_at_call 228; exact quiet_left (kI _)))
            go_wp2_with fail
            go_ret
            exact ⟨ret_bool HF.out.symm, bl_drewN hbX _⟩
          · by_cases h60 : 60 < y.size
            · have hd60 : decide ((60 : Int) < y.size) = true := decide_eq_true (by omega)
              have hd61 : decide (60 < y.size) = true := decide_eq_true h60
              have HF := Lib.hid (extra_no (ps := ps) (L := L) (k := 0) (by rw [HY.out]; simp; try omega) (by omega))
              clear HY HG
              go_quiet (first | (go_at_call 193; exact quiet_left (kT _)) | (go_at_call 228; exact quiet_left (kI _)))
              go_wp2_with fail
              go_ret
              exact ⟨ret_bool HF.out.symm, bl_drewN hbX _⟩
            · have hd60 : decide ((60 : Int) < y.size) = false := decide_eq_false (by omega)
              have hd61 : decide (60 < y.size) = false := decide_eq_false h60
              by_cases hz : cntL ls x = 0
              · have hdc : decide ((0 : Int) < (cntL ls x : Int)) = false := decide_eq_false (by omega)
                have hdc2 : decide (0 < cntL ls x) = false := decide_eq_false (by omega)
                have HF : Hid (extraTo ps L (0 + 1) = true) := Lib.hid (by rw [extraTo_succ, HG.out, HY.out]; simp; omega)
                clear HY HG
                go_quiet (first | (go_at_call 193; exact quiet_left (kT _)) | (go_at_call 228; exact quiet_left (kI _)))
                go_wp2_with (at_lookup; refine wpList_lookup_own_int _ rfl _ _ 284 rfl 9 3 .i64 mapLaw Tryz.underlying284 Tryz.underlying3 (zeroInt _) w.heap.size ls.length D rfl HMX.out _ _ rfl HKY.out ?_; intro c hat hwc; obtain rfl := cm_at HC.out hat; clear hat hwc)
                exact ⟨⟨bl_drewN hbX _, ⟨D, HMX.out, HC.out⟩, 0 + 1, by omega, rfl, HF⟩, by (simp only [intOf]; omega)⟩
              · have hdc : decide ((0 : Int) < (cntL ls x : Int)) = true := decide_eq_true (by omega)
                have hdc2 : decide (0 < cntL ls x) = true := decide_eq_true (by omega)
                have HF := Lib.hid (extra_no (ps := ps) (L := L) (k := 0) (by rw [HY.out]; simp; try omega) (by omega))
                clear HY HG
                go_quiet (first | (go_at_call 193; exact quiet_left (kT _)) | (go_at_call 228; exact quiet_left (kI _)))
                go_wp2_with (at_lookup; refine wpList_lookup_own_int _ rfl _ _ 284 rfl 9 3 .i64 mapLaw Tryz.underlying284 Tryz.underlying3 (zeroInt _) w.heap.size ls.length D rfl HMX.out _ _ rfl HKY.out ?_; intro c hat hwc; obtain rfl := cm_at HC.out hat; clear hat hwc)
                go_ret
                exact ⟨ret_bool HF.out.symm, bl_drewN hbX _⟩
      · obtain ⟨b3, off3, px, py, hAA, _, hpx, p0, _⟩ := lab_at (hl.below hbw) (show k - 1 < n by omega)
        cases hAA
        have hz0 : decide ((0 : Int) < k) = true := decide_eq_true (by omega)
        have hz1 : decide (0 < k) = true := decide_eq_true (by omega)
        have hkm0 : (0 : Int) ≤ (k : Int) - 1 := by omega
        have hkm1 : (k : Int) - 1 < n := by omega
        have hkm2 : (1 : Int) ≤ k := by omega
        have hw1 : IntKind.i64.wrap ((k : Int) - 1) = (k : Int) - 1 := IntWalk.i64_in _ (by omega)
        have hw2 : ((k : Int) - 1).toNat = k - 1 := by omega
        have p1 : (wr.alloc (.cells #[.string x, .string y] 118)).cell? ⟨b, off + (k - 1) * 2, none⟩ = some (.string px) := (World.cell?_alloc_lt wr _ ⟨_, _, none⟩ hgw).trans p0
        have HP : Hid (decide (nmL (L.getD (k - 1) default) < x.data.toList) = Op.bytesLess px.toList x.toList) := Lib.hid (by
          rw [List.getD_eq_getElem?_getD, hpx, bytesLess_eq, ByteArray.toList_eq, ByteArray.toList_eq]; rfl)
        cases hq : Op.bytesLess px.toList x.toList
        · have HF := Lib.hid (extra_no (ps := ps) (L := L) (k := k) (by rw [HX.out, HP.out, hq, decide_eq_false h0]; rfl) (by omega))
          clear HX HP HG hx hpx kT kI
          go_quiet (fail)
          go_wp2_with fail
          go_ret
          exact ⟨ret_bool HF.out.symm, bl_drewN hbX _⟩
        · have HY : Hid (extraAt ps L k = (qt && (qi && (decide (y.size ≤ 60) && decide (cntL ls x = 0))))) := Lib.hid (by rw [HX.out, HP.out, hq]; simp)
          clear HX HP hx hpx
          cases qt
          · clear kI
            have HF := Lib.hid (extra_no (ps := ps) (L := L) (k := k) (by rw [HY.out]; simp; try omega) (by omega))
            clear HY HG
            go_quiet (first | (go_at_call 193; exact quiet_left (kT _)))
            go_wp2_with fail
            go_ret
            exact ⟨ret_bool HF.out.symm, bl_drewN hbX _⟩
          · cases qi
            · skip
              have HF := Lib.hid (extra_no (ps := ps) (L := L) (k := k) (by rw [HY.out]; simp; try omega) (by omega))
              clear HY HG
              go_quiet (first | (go_at_call 193; exact quiet_left (kT _)) | (go_at_call 228; exact quiet_left (kI _)))
              go_wp2_with fail
              go_ret
              exact ⟨ret_bool HF.out.symm, bl_drewN hbX _⟩
            · by_cases h60 : 60 < y.size
              · have hd60 : decide ((60 : Int) < y.size) = true := decide_eq_true (by omega)
                have hd61 : decide (60 < y.size) = true := decide_eq_true h60
                have HF := Lib.hid (extra_no (ps := ps) (L := L) (k := k) (by rw [HY.out]; simp; try omega) (by omega))
                clear HY HG
                go_quiet (first | (go_at_call 193; exact quiet_left (kT _)) | (go_at_call 228; exact quiet_left (kI _)))
                go_wp2_with fail
                go_ret
                exact ⟨ret_bool HF.out.symm, bl_drewN hbX _⟩
              · have hd60 : decide ((60 : Int) < y.size) = false := decide_eq_false (by omega)
                have hd61 : decide (60 < y.size) = false := decide_eq_false h60
                by_cases hz : cntL ls x = 0
                · have hdc : decide ((0 : Int) < (cntL ls x : Int)) = false := decide_eq_false (by omega)
                  have hdc2 : decide (0 < cntL ls x) = false := decide_eq_false (by omega)
                  have HF : Hid (extraTo ps L (k + 1) = true) := Lib.hid (by rw [extraTo_succ, HG.out, HY.out]; simp; omega)
                  clear HY HG
                  go_quiet (first | (go_at_call 193; exact quiet_left (kT _)) | (go_at_call 228; exact quiet_left (kI _)))
                  go_wp2_with (at_lookup; refine wpList_lookup_own_int _ rfl _ _ 284 rfl 9 3 .i64 mapLaw Tryz.underlying284 Tryz.underlying3 (zeroInt _) w.heap.size ls.length D rfl HMX.out _ _ rfl HKY.out ?_; intro c hat hwc; obtain rfl := cm_at HC.out hat; clear hat hwc)
                  exact ⟨⟨bl_drewN hbX _, ⟨D, HMX.out, HC.out⟩, k + 1, by omega, rfl, HF⟩, by (simp only [intOf]; omega)⟩
                · have hdc : decide ((0 : Int) < (cntL ls x : Int)) = true := decide_eq_true (by omega)
                  have hdc2 : decide (0 < cntL ls x) = true := decide_eq_true (by omega)
                  have HF := Lib.hid (extra_no (ps := ps) (L := L) (k := k) (by rw [HY.out]; simp; try omega) (by omega))
                  clear HY HG
                  go_quiet (first | (go_at_call 193; exact quiet_left (kT _)) | (go_at_call 228; exact quiet_left (kI _)))
                  go_wp2_with (at_lookup; refine wpList_lookup_own_int _ rfl _ _ 284 rfl 9 3 .i64 mapLaw Tryz.underlying284 Tryz.underlying3 (zeroInt _) w.heap.size ls.length D rfl HMX.out _ _ rfl HKY.out ?_; intro c hat hwc; obtain rfl := cm_at HC.out hat; clear hat hwc)
                  go_ret
                  exact ⟨ret_bool HF.out.symm, bl_drewN hbX _⟩
    · have hdk : decide ((k : Int) < n) = false := decide_eq_false (by omega)
      have HF := Lib.hid ((HE k hk).out HG.out (by omega))
      have hsize := hc.size hnd
      have hwr : IntKind.i64.wrap ((n : Int) + ((Maps.size D : Nat) : Int)) = ((n + ls.length : Nat) : Int) := by rw [hsize, ← Int.natCast_add]; exact wrap8 (by omega)
      have hd8 : decide (((n + ls.length : Nat) : Int) ≤ 8) = decide (L.length + ls.length ≤ 8) := decide_eq_decide.2 (by omega)
      clear HG HE hX
      go_wp2_with (at_len; refine wpList_len_own _ rfl _ 284 rfl 9 3 Tryz.underlying284 _ w.heap.size ls.length D rfl hm ?_)
      go_ret
      exact ⟨ret_bool (by rw [HF.out]; first | exact hd8 | (rw [hsize] at *; simp at *; omega)), hbw⟩
/-! ### a rule -/
structure VRule where
  rule : MRule
  fA : Option Addr
  fC : Nat
  pA : Option Addr
  pC : Nat
  eA : Option Addr
  eC : Nat
structure RuleAt (w : World) (B : Nat) (x : VRule) : Prop where
  f : IsRows strCell 1 w B x.fA x.rule.filter.length x.rule.filter
  p : IsRows strCell 1 w B x.pA x.rule.parts.length x.rule.parts
  e : IsRows labCell 2 w B x.eA x.rule.extra.length x.rule.extra
structure RuleOk (r : MRule) : Prop where
  f : r.filter.length ≤ 2097152 ∧ ∀ x ∈ r.filter, x.size ≤ 9223372036854775807
  p : r.parts.length ≤ 2097152 ∧ ∀ x ∈ r.parts, x.size ≤ 9223372036854775807
  e : r.extra.length ≤ 2097152 ∧ ∀ x ∈ r.extra, x.1.size ≤ 9223372036854775807 ∧ x.2.size ≤ 9223372036854775807
section
variable {w w' : World} {B B' : Nat} {x : VRule}
theorem RuleAt.below (h : RuleAt w B x) (k : Below B w w') : RuleAt w' B x := ⟨h.f.below k, h.p.below k, h.e.below k⟩
theorem RuleAt.more (h : RuleAt w B x) (k : B ≤ B') : RuleAt w B' x := ⟨h.f.more k, h.p.more k, h.e.more k⟩
theorem RuleAt.bel (h : RuleAt w w.heap.size x) (k : Below w.heap.size w w') : RuleAt w' w'.heap.size x := (h.below k).more k.size
theorem RuleAt.aw {S : List Nat} (h : RuleAt w B x) (k : Aw S w w') (hB : B ≤ w.heap.size) (hS : ∀ i, i ∈ S → B ≤ i) : RuleAt w' B x := ⟨h.f.aw k hB hS, h.p.aw k hB hS, h.e.aw k hB hS⟩
end
set_option maxRecDepth 100000 in
set_option maxHeartbeats 3200000 in
theorem tgood_any (x : VRule) (w : World) (h : RuleAt w w.heap.size x) (ok : RuleOk x.rule) :
    Calls Tryz.prog 145 #[.agg #[.slice x.fA x.rule.filter.length x.fC, .slice x.pA x.rule.parts.length x.pC, .slice x.eA x.rule.extra.length x.eC]] w fun e w' => e = .returned (.bool (goodR x.rule)) ∧ Below w.heap.size w w' := by
  have HB : Hid (goodR x.rule = (decide (x.rule.filter.length ≤ 12) && (decide (x.rule.filter.length ≤ x.rule.parts.length) && (!(x.rule.filter.any wrongF) && (partsB x.rule.parts && extraB x.rule.extra x.rule.parts))))) := Lib.hid rfl
  have kC := fun W (hb : Below w.heap.size w W) => scon_good 0 x.fA x.rule.filter.length x.fC W.heap.size x.rule.filter wrongF W (h.bel hb).f ok.f.1 (fun y hy => goodClo_any y W (ok.f.2 y hy))
  have kP := fun W (hb : Below w.heap.size w W) => isParts_any x.pA x.rule.parts.length x.pC x.rule.parts W (h.bel hb).p ok.p.1 ok.p.2
  have kE := fun W (hb : Below w.heap.size w W) (hp : partsB x.rule.parts = true) => isExtra_any x.eA x.rule.extra.length x.eC x.rule.extra x.pA x.rule.parts.length x.pC x.rule.parts W (h.bel hb).e ok.e.1 (h.bel hb).p ok.p.1 ok.p.2 ok.e.2 (parts_nodup hp)
  clear h ok
  generalize partsB x.rule.parts = P1 at *
  generalize extraB x.rule.extra x.rule.parts = E1 at *
  generalize (x.rule.filter.any wrongF) = F1 at *
  obtain ⟨⟨fs, ps, es⟩, fA, fC, pA, pC, eA, eC⟩ := x
  simp only at *
  generalize fs.length = fn at *
  generalize ps.length = pn at *
  generalize es.length = en at *
  have hW := Blk.new w 40 #[.slice fA fn fC, .slice pA pn pC, .slice eA en eC]
  have hb0 : Below w.heap.size w (w.alloc (.cells #[.slice fA fn fC, .slice pA pn pC, .slice eA en eC] 40)) := (Below.refl _ _).alloc (Nat.le_refl _) _
  have c0 := (Blk.cell hW 0).trans rfl
  have c1 := (Blk.cell hW 1).trans rfl
  have c2 := (Blk.cell hW 2).trans rfl
  have d2 : decide ((fn : Int) ≤ (pn : Int)) = decide (fn ≤ pn) := decide_eq_decide.2 (by omega)
  by_cases h1 : fn ≤ 12
  case neg =>
    have d1 : decide ((fn : Int) ≤ 12) = false := decide_eq_false (by omega)
    rw [decide_eq_false h1] at HB
    clear kC kP kE
    go_enter Tryz.func145, Tryz.ntmps145
    go_wp2_with fail
    go_ret
    exact ⟨ret_bool (by rw [HB.out]; rfl), hb0⟩
  case pos =>
    have d1 : decide ((fn : Int) ≤ 12) = true := decide_eq_true (by omega)
    rw [decide_eq_true h1] at HB
    by_cases h2 : fn ≤ pn
    case neg =>
      rw [decide_eq_false h2] at d2 HB
      clear kC kP kE
      go_enter Tryz.func145, Tryz.ntmps145
      go_wp2_with fail
      go_ret
      exact ⟨ret_bool (by rw [HB.out]; rfl), hb0⟩
    case pos =>
      rw [decide_eq_true h2] at d2 HB
      cases F1
      case true =>
        clear kP kE
        go_enter Tryz.func145, Tryz.ntmps145
        go_wp2_with (go_at_call 194; (with_reducible refine (kC _ hb0).mono ?_); rintro e w1 ⟨rfl, hw1⟩; rw [hw1]; clear hw1 w1)
        go_ret
        exact ⟨ret_bool (by rw [HB.out]; rfl), hb0⟩
      case false =>
        cases P1
        case false =>
          clear kE
          go_enter Tryz.func145, Tryz.ntmps145
          go_wp2_with (first
            | (go_at_call 194; (with_reducible refine (kC _ hb0).mono ?_); rintro e w1 ⟨rfl, hw1⟩; rw [hw1]; clear hw1 w1)
            | (go_at_call 195; (with_reducible refine (kP _ hb0).mono ?_); rintro e w2 ⟨rfl, hb2⟩))
          go_ret
          exact ⟨ret_bool (by rw [HB.out]; rfl), bl_any hb0 hb2⟩
        case true =>
          have kE2 := fun W hb => kE W hb rfl
          clear kE
          go_enter Tryz.func145, Tryz.ntmps145
          go_wp2_with (first
            | (go_at_call 194; (with_reducible refine (kC _ hb0).mono ?_); rintro e w1 ⟨rfl, hw1⟩; rw [hw1]; clear hw1 w1)
            | (go_at_call 195; (with_reducible refine (kP _ hb0).mono ?_); rintro e w2 ⟨rfl, hb2⟩; have hW2 := hW.below hb2 (Blk.lt hW); have e0 := (Blk.cell hW2 0).trans rfl; have e1 := (Blk.cell hW2 1).trans rfl; have e2 := (Blk.cell hW2 2).trans rfl)
            | (go_at_call 196; (with_reducible refine (kE2 _ (bl_any hb0 hb2)).mono ?_); rintro e w3 ⟨rfl, hb3⟩))
          go_ret
          exact ⟨ret_bool (by rw [HB.out]; cases E1 <;> rfl), bl_any (bl_any hb0 hb2) hb3⟩
end
section
/-- bytealg.MaxLen's cell. -/
def MxAt (w : World) (m : Int) : Prop := w.cell? ⟨0, 0, none⟩ = some (.int .i64 m)
theorem MxAt.below {w w' : World} {m : Int} (h : MxAt w m) (k : Below w.heap.size w w') : MxAt w' m := (k.cell (p := ⟨0, 0, none⟩) (lt_of_cell h)).trans h
theorem MxAt.bel {w w' : World} {m : Int} {B : Nat} (h : MxAt w m) (k : Below B w w') (hB : 0 < B) : MxAt w' m := (k.cell (p := ⟨0, 0, none⟩) hB).trans h
theorem flat_strs (l : List ByteArray) : (l.map Value.string) = l.flatMap strCell := by
  induction l with
  | nil => rfl
  | cons x l ih => rw [List.map_cons, List.flatMap_cons, ih]; rfl
theorem IsRows.bel {α : Type} {f : α → List Value} {size : Nat} {w w' : World} {A : Option Addr} {n : Nat} {xs : List α} (h : IsRows f size w w.heap.size A n xs) (k : Below w.heap.size w w') : IsRows f size w' w'.heap.size A n xs := (h.below k).more k.size
/-- What Split hands back. -/
structure SplitE (w w' : World) (ns : List ByteArray) (e : Ending) : Prop where
  e : e = .returned (.slice (some ⟨w.heap.size, 0, none⟩) ns.length ns.length)
  r : IsRows strCell 1 w' w'.heap.size (some ⟨w.heap.size, 0, none⟩) ns.length ns
  b : Below w.heap.size w w'
theorem strSplit_any (p : ByteArray) (m : Int) (w : World) (hm : MxAt w m) (hs : p.size ≤ 1048576) :
    Calls Tryz.prog 197 #[.string p, .string ⟨#[46]⟩] w fun e w' => SplitE w w' (nodesT p) e := by
  have hlen := Lib.splitB_all (⟨#[46]⟩ : ByteArray) (Nat.le_refl 1) 0 _ p rfl
  refine (Tryz.strings_Split p ⟨#[46]⟩ m w (by omega) hm (Nat.le_refl 1)).mono ?_
  rintro e w' ⟨rfl, rfl⟩
  rw [splitB_nodes] at hlen ⊢
  refine ⟨by rw [hlen], ?_, (Below.refl _ _).alloc (Nat.le_refl _) _⟩
  exact IsRows.made (f := strCell) (fun _ => rfl) w _ _ (nodesT p) (by rw [List.toList_toArray, flat_strs])
theorem split_any (p : ByteArray) (m : Int) (w : World) (hm : MxAt w m) (hs : p.size ≤ 1048576) :
    Calls Tryz.prog 146 #[.string p] w fun e w' => SplitE w w' (nodesT p) e := by
  have k := strSplit_any p m w hm hs
  go_enter Tryz.func146, Tryz.ntmps146
  go_wp2_with (go_at_call 197; (with_reducible refine k.mono ?_); rintro e w1 ⟨rfl, hr, hb⟩)
  go_ret
  exact ⟨rfl, hr, hb⟩
theorem own_rwc {α : Type} {f : α → List Value} {size : Nat} (hf : ∀ x, (f x).length = size) {w : World} {base : Nat} {e : TypeId} {v : Value} {n : Nat} {l : List α} (h : w.ownsRow base e size v n (l.flatMap f)) (hn : l.length = n) :
    ∃ (A : Option Addr) (cap : Nat), v = .slice A n cap ∧ IsRows f size w w.heap.size A n l ∧ n ≤ cap := by
  obtain ⟨A, cap, rfl, hr⟩ := own_rws hf h hn
  refine ⟨A, cap, rfl, hr, ?_⟩
  rcases h.2 with ⟨h1, rfl⟩ | ⟨g, cap', cur, h1, _, _, hnc, _⟩
  · exact Nat.zero_le _
  · injection h1 with _ _ h1
    rw [h1]; exact hnc
theorem join_any (A : Option Addr) (n cap : Nat) (xs : List ByteArray) (B : Nat) (w : World) (hl : IsRows strCell 1 w B A n xs) (hB : B ≤ w.heap.size) (hn : n ≤ 16777216) (hcap : n ≤ cap) (hsz : ∀ x ∈ xs, x.size ≤ 1048576) :
    Calls Tryz.prog 148 #[.slice A n cap, .string ⟨#[46]⟩] w fun e w' => e = .returned (.string (joinT xs)) ∧ Below w.heap.size w w' := by
  obtain ⟨hlen, hc⟩ := hl
  subst hlen
  by_cases h0 : xs.length = 0
  · have : xs = [] := List.length_eq_zero_iff.1 h0
    subst this
    exact (Tryz.strings_Join_none A cap ⟨#[46]⟩ w).mono fun e w' ⟨h1, h2⟩ => ⟨h1, by rw [h2]; exact Below.refl _ _⟩
  · obtain ⟨b, off, rfl, hb, hcell⟩ := hc (by omega)
    have hj := joinT_le 1048576 xs hsz
    have hj2 : xs.length * (1048576 + 1) ≤ 16777216 * (1048576 + 1) := Nat.mul_le_mul_right _ hn
    have e1 : (joinT xs).size = (Lib.join (xs.map (·.data.toList)) (⟨#[46]⟩ : ByteArray).data.toList).length := rfl
    exact Tryz.strings_Join b off cap xs ⟨#[46]⟩ w (fun j x hx => by have := hcell j x 0 _ hx rfl; simpa using this) (by omega) (by omega) hcap (by omega)
theorem endless_any (A : Option Addr) (n cap : Nat) (ps : List ByteArray) (B : Nat) (w : World) (hl : IsRows strCell 1 w B A n ps) (h0 : 0 < n) (hn : n ≤ 2097152) :
    Calls Tryz.prog 147 #[.slice A n cap] w fun e w' => e = .returned (.bool (endless ps)) ∧ w' = w := by
  have hll := hl.1
  obtain ⟨b, off, x, rfl, hgb, hx, e0⟩ := str_at hl (show n - 1 < n by omega)
  have hw1 : IntKind.i64.wrap ((n : Int) - 1) = (n : Int) - 1 := IntWalk.i64_in _ (by omega)
  have hw2 : ((n : Int) - 1).toNat = n - 1 := by omega
  have hk0 : (0 : Int) ≤ (n : Int) - 1 := by omega
  have hk1 : (n : Int) - 1 < n := by omega
  have hk2 : (1 : Int) ≤ (n : Int) := by omega
  have HE : Hid (endless ps = (x.toList == [109, 101, 116, 114, 105, 99, 42])) := Lib.hid (by
    unfold endless isT
    rw [List.getD_eq_getElem?_getD, hll, hx, ByteArray.toList_eq]; rfl)
  clear hx hll
  go_enter Tryz.func147, Tryz.ntmps147
  go_wp2_with fail
  go_ret
  exact ⟨ret_bool (by rw [HE.out]), rfl⟩
/-! ### Match -/
theorem filt_succ (fs ns : List ByteArray) (k : Nat) : filtTo fs ns (k + 1) = (filtTo fs ns k && (isE (fs.getD k default) || (fs.getD k default).data.toList == (ns.getD k default).data.toList)) := by
  unfold filtTo; rw [List.range_succ, List.all_append]; simp
theorem filt_no {fs ns : List ByteArray} {k n : Nat} (h : (isE (fs.getD k default) || (fs.getD k default).data.toList == (ns.getD k default).data.toList) = false) (hk : k < n) : filtTo fs ns n = false := by
  unfold filtTo
  rw [List.all_eq_false]
  exact ⟨k, List.mem_range.2 hk, by rw [h]; exact Bool.false_ne_true⟩
theorem getD_of {α : Type} [Inhabited α] {l : List α} {k : Nat} {x : α} (h : l[k]? = some x) : l.getD k default = x := by rw [List.getD_eq_getElem?_getD, h]; rfl
theorem good_lens {r : MRule} (h : goodR r = true) : r.filter.length ≤ r.parts.length ∧ 0 < r.parts.length ∧ r.parts.length ≤ 12 ∧ r.extra.length ≤ 8 := by
  unfold goodR partsB extraB at h
  simp only [Bool.and_eq_true, decide_eq_true_eq] at h
  obtain ⟨h1, h2, h3, ⟨h4, h5, h6, h7⟩, h8, h9⟩ := h
  refine ⟨h2, ?_, h6, by omega⟩
  rcases Nat.eq_zero_or_pos r.parts.length with h0 | h0
  · rw [List.length_eq_zero_iff.1 h0] at h5; cases h5
  · exact h0
set_option maxRecDepth 100000 in
set_option maxHeartbeats 3200000 in
theorem match_any (x : VRule) (p : ByteArray) (m : Int) (w : World) (h : RuleAt w w.heap.size x) (ok : RuleOk x.rule) (hm : MxAt w m) (hs : p.size ≤ 1048576) :
    Calls Tryz.prog 86 #[.agg #[.slice x.fA x.rule.filter.length x.fC, .slice x.pA x.rule.parts.length x.pC, .slice x.eA x.rule.extra.length x.eC], .string p] w fun e w' => e = .returned (.bool (matchT x.rule p)) ∧ Below w.heap.size w w' := by
  have hm0 : MxAt (w.alloc (.cells #[.slice x.fA x.rule.filter.length x.fC, .slice x.pA x.rule.parts.length x.pC, .slice x.eA x.rule.extra.length x.eC] 40)) m := hm.below ((Below.refl _ _).alloc (Nat.le_refl _) _)
  have hb0 : Below w.heap.size w (w.alloc (.cells #[.slice x.fA x.rule.filter.length x.fC, .slice x.pA x.rule.parts.length x.pC, .slice x.eA x.rule.extra.length x.eC] 40)) := (Below.refl _ _).alloc (Nat.le_refl _) _
  have h0 := h.bel hb0
  have kG := tgood_any x _ h0 ok
  have kS := fun W hb => split_any p m W (hm.below (w' := W) hb) hs
  have hnl := nodesT_len p
  have HB : Hid (matchT x.rule p = (goodR x.rule && (!(decide ((nodesT p).length < x.rule.parts.length) || (decide (x.rule.parts.length < (nodesT p).length) && !endless x.rule.parts)) && filtTo x.rule.filter (nodesT p) x.rule.filter.length))) := Lib.hid rfl
  have hlens := good_lens (r := x.rule)
  have hF := h0.f
  have hP := h0.p
  generalize matchT x.rule p = MV at *
  generalize goodR x.rule = G at *
  generalize nodesT p = ns at *
  clear ok h h0 hm0 hm
  obtain ⟨⟨fs, ps, es⟩, fA, fC, pA, pC, eA, eC⟩ := x
  simp only at *
  have hW := Blk.new w 40 #[.slice fA fs.length fC, .slice pA ps.length pC, .slice eA es.length eC]
  have c0 := (Blk.cell hW 0).trans rfl
  have c1 := (Blk.cell hW 1).trans rfl
  have c2 := (Blk.cell hW 2).trans rfl
  cases G
  case false =>
    clear kS
    go_enter Tryz.func86, Tryz.ntmps86
    go_wp2_with (go_at_call 145; (with_reducible refine kG.mono ?_); rintro e w1 ⟨rfl, hb1⟩; have hW1 := hW.below hb1 (Blk.lt hW))
    go_ret
    exact ⟨ret_bool (by rw [HB.out]; rfl), bl_any hb0 hb1⟩
  case true =>
    obtain ⟨hfp, hp0, hp12, _⟩ := hlens rfl
    have kE := fun W (hr : IsRows strCell 1 W W.heap.size pA ps.length ps) => endless_any pA ps.length pC ps W.heap.size W hr hp0 (by omega)
    by_cases ha : ns.length < ps.length
    · have dA : decide ((ns.length : Int) < (ps.length : Int)) = true := decide_eq_true (by omega)
      have dA2 : decide (ns.length < ps.length) = true := decide_eq_true ha
      clear kE
      go_enter Tryz.func86, Tryz.ntmps86
      go_wp2_with (first | (go_at_call 145; (with_reducible refine kG.mono ?_); rintro e w1 ⟨rfl, hb1⟩; have hW1 := hW.below hb1 (Blk.lt hW)) | (go_at_call 146; (with_reducible refine (kS _ (bl_any hb0 hb1)).mono ?_); rintro e w2 ⟨rfl, hr2, hb2⟩; have hW2 := hW1.below hb2 (Blk.lt hW1); have d0 := (Blk.cell hW2 0).trans rfl; have d1 := (Blk.cell hW2 1).trans rfl; have d2 := (Blk.cell hW2 2).trans rfl))
      go_ret
      exact ⟨ret_bool (by rw [HB.out, dA2]; rfl), bl_any (bl_any hb0 hb1) hb2⟩
    · have dA : decide ((ns.length : Int) < (ps.length : Int)) = false := decide_eq_false (by omega)
      have dA2 : decide (ns.length < ps.length) = false := decide_eq_false ha
      rw [dA2] at HB
      have hcase : (decide (ps.length < ns.length) = true ∧ endless ps = false) ∨ (decide (ps.length < ns.length) = false) ∨ (decide (ps.length < ns.length) = true ∧ endless ps = true) := by
        cases decide (ps.length < ns.length) <;> cases endless ps <;> simp
      rcases hcase with ⟨hq, he⟩ | hq | ⟨hq, he⟩
      · have dB : decide ((ps.length : Int) < (ns.length : Int)) = true := by rw [decide_eq_true_eq] at hq; exact decide_eq_true (by omega)
        rw [he] at kE HB
        rw [hq] at HB
        clear he
        go_enter Tryz.func86, Tryz.ntmps86
        go_wp2_with (first | (go_at_call 145; (with_reducible refine kG.mono ?_); rintro e w1 ⟨rfl, hb1⟩; have hW1 := hW.below hb1 (Blk.lt hW)) | (go_at_call 146; (with_reducible refine (kS _ (bl_any hb0 hb1)).mono ?_); rintro e w2 ⟨rfl, hr2, hb2⟩; have hW2 := hW1.below hb2 (Blk.lt hW1); have d0 := (Blk.cell hW2 0).trans rfl; have d1 := (Blk.cell hW2 1).trans rfl; have d2 := (Blk.cell hW2 2).trans rfl) | (go_at_call 147; (with_reducible refine (kE _ ((hP.bel hb1).bel hb2)).mono ?_); rintro e w3 ⟨rfl, hw3⟩; rw [hw3]; clear hw3 w3))
        go_ret
        exact ⟨ret_bool (by rw [HB.out]; rfl), bl_any (bl_any hb0 hb1) hb2⟩
      all_goals
        try rw [he] at kE
        have HF : Hid (MV = filtTo fs ns fs.length) := Lib.hid (by rw [HB.out, hq]; (try rw [he]); simp)
        try clear he
        have dB : decide ((ps.length : Int) < (ns.length : Int)) = decide (ps.length < ns.length) := decide_eq_decide.2 (by omega)
        rw [hq] at dB
        clear HB
        go_enter Tryz.func86, Tryz.ntmps86
        go_wp2_with (first | (go_at_call 145; (with_reducible refine kG.mono ?_); rintro e w1 ⟨rfl, hb1⟩; have hW1 := hW.below hb1 (Blk.lt hW)) | (go_at_call 146; (with_reducible refine (kS _ (bl_any hb0 hb1)).mono ?_); rintro e w2 ⟨rfl, hr2, hb2⟩; have hW2 := hW1.below hb2 (Blk.lt hW1); have d0 := (Blk.cell hW2 0).trans rfl; have d1 := (Blk.cell hW2 1).trans rfl; have d2 := (Blk.cell hW2 2).trans rfl) | (go_at_call 147; (with_reducible refine (kE _ ((hP.bel hb1).bel hb2)).mono ?_); rintro e w3 ⟨rfl, hw3⟩; rw [hw3]; clear hw3 w3))
        have hF2 := (hF.bel hb1).bel hb2
        have hbb := bl_any (bl_any hb0 hb1) hb2
        clear kG kS kE hF hP
        go_loop [36] (fun i => ∃ k : Nat, k ≤ fs.length ∧ i = .int .i64 k ∧ Hid (filtTo fs ns k = true)) (fun i => fs.length - (intOf i).toNat)
        case atStart => exact ⟨0, by omega, rfl, Lib.hid rfl⟩
        case round =>
          obtain ⟨k, hk, rfl, HG⟩ := hrel
          by_cases hlt : k < fs.length
          · have hdk : decide ((k : Int) < (fs.length : Int)) = true := decide_eq_true (by omega)
            have hk0 : (0 : Int) ≤ k := by omega
            have hk1 : (k : Int) < (fs.length : Int) := by omega
            have hk2 : (k : Int) < (ns.length : Int) := by omega
            obtain ⟨b, off, f1, rfl, _, hx, e0⟩ := str_at hF2 hlt
            obtain ⟨b2, off2, n1, hAA, _, hy, e1⟩ := str_at hr2 (show k < ns.length by omega)
            injection hAA with hAA
            injection hAA with hA1 hA2
            subst hA1; subst hA2
            have HS := Lib.hid (filt_succ fs ns k)
            have HX : Hid ((isE (fs.getD k default) || (fs.getD k default).data.toList == (ns.getD k default).data.toList) = ((f1.toList == [42]) || (f1.toList == n1.toList))) := Lib.hid (by
              rw [getD_of hx, getD_of hy]; unfold isE; rw [ByteArray.toList_eq, ByteArray.toList_eq])
            clear hx hy
            simp only [Nat.zero_add] at e1
            cases hq1 : (f1.toList == [42])
            · cases hq2 : (f1.toList == n1.toList)
              · have HN : Hid (MV = false) := Lib.hid (by rw [HF.out]; exact filt_no (k := k) (by rw [HX.out, hq1, hq2]; rfl) hlt)
                clear HS HX HG
                go_wp2_with fail
                go_ret
                exact ⟨ret_bool HN.out.symm, hbb⟩
              · have HN : Hid (filtTo fs ns (k + 1) = true) := Lib.hid (by rw [HS.out, HG.out, HX.out, hq1, hq2]; rfl)
                clear HS HX HG
                go_wp2_with fail
                exact ⟨⟨k + 1, by omega, rfl, HN⟩, by (simp only [intOf]; omega)⟩
            · have HN : Hid (filtTo fs ns (k + 1) = true) := Lib.hid (by rw [HS.out, HG.out, HX.out, hq1]; rfl)
              clear HS HX HG
              go_wp2_with fail
              exact ⟨⟨k + 1, by omega, rfl, HN⟩, by (simp only [intOf]; omega)⟩
          · have hdk : decide ((k : Int) < (fs.length : Int)) = false := decide_eq_false (by omega)
            have HN : Hid (MV = true) := Lib.hid (by rw [HF.out, ← HG.out]; congr 1; omega)
            clear HG
            go_wp2_with fail
            go_ret
            exact ⟨ret_bool HN.out.symm, hbb⟩
end
section
theorem own_ne2 {w : World} {b1 b2 : Nat} {e1 e2 : TypeId} {s1 s2 n1 n2 : Nat} {v1 v2 : Value} {xs1 xs2 : List Value} (h1 : w.ownsRow b1 e1 s1 v1 n1 xs1) (h2 : w.ownsRow b2 e2 s2 v2 n2 xs2) (hne : e1 ≠ e2) : v1.ownBlock = none ∨ v1.ownBlock ≠ v2.ownBlock := by
  rcases h1.2 with ⟨rfl, _⟩ | ⟨g, cap, cur, rfl, _, hh, _⟩
  · exact .inl rfl
  · refine .inr fun e => ?_
    rcases h2.2 with ⟨rfl, _⟩ | ⟨g', cap', cur', rfl, _, hh', _⟩
    · simp [Value.ownBlock] at e
    · simp only [Value.ownBlock, Option.some.injEq] at e
      subst e
      rw [hh] at hh'
      injection hh' with hh'
      injection hh' with _ ht
      exact hne ht
/-- What Apply hands back. -/
structure ApplyE (w w' : World) (R : ByteArray × List Lab) (e : Ending) : Prop where
  e : ∃ A n c, e = .returned (.tuple #[.string R.1, .slice A n c]) ∧ IsRows labCell 2 w' w'.heap.size A n R.2
  b : Below w.heap.size w w'
theorem takeGo_M {p y : ByteArray} {ps ns nm : List ByteArray} {lb : List Lab} (h : isM p = true) : takeGo (p :: ps) (y :: ns) nm lb = takeGo ps ns (nm ++ [y]) lb := by
  rw [takeGo, if_pos h]; rfl
theorem takeGo_T {p y : ByteArray} {ps ns nm : List ByteArray} {lb : List Lab} (h1 : isM p = false) (h : isT p = true) : takeGo (p :: ps) (y :: ns) nm lb = takeGo ps ns (nm ++ (y :: ns)) lb := by
  rw [takeGo, if_neg (by rw [h1]; simp), if_pos h]; rfl
theorem takeGo_K {p y : ByteArray} {ps ns nm : List ByteArray} {lb : List Lab} (h1 : isM p = false) (h2 : isT p = false) (h : isK p = true) : takeGo (p :: ps) (y :: ns) nm lb = takeGo ps ns nm lb := by
  rw [takeGo, if_neg (by rw [h1]; simp), if_neg (by rw [h2]; simp), if_pos h]; rfl
theorem takeGo_L {p y : ByteArray} {ps ns nm : List ByteArray} {lb : List Lab} (h1 : isM p = false) (h2 : isT p = false) (h : isK p = false) : takeGo (p :: ps) (y :: ns) nm lb = takeGo ps ns nm (lb ++ [(p, y)]) := by
  rw [takeGo, if_neg (by rw [h1]; simp), if_neg (by rw [h2]; simp), if_neg (by rw [h]; simp)]; rfl
theorem isM_toL (x : ByteArray) : isM x = (x.toList == [109, 101, 116, 114, 105, 99]) := by unfold isM; rw [ByteArray.toList_eq]
theorem isT_toL (x : ByteArray) : isT x = (x.toList == [109, 101, 116, 114, 105, 99, 42]) := by unfold isT; rw [ByteArray.toList_eq]
theorem isK_toL (x : ByteArray) : isK x = (x.toList == [95]) := by unfold isK; rw [ByteArray.toList_eq]
set_option maxRecDepth 100000 in
set_option maxHeartbeats 6400000 in
theorem apply1_any (x : VRule) (p : ByteArray) (m : Int) (w : World) (h : RuleAt w w.heap.size x) (hg : goodR x.rule = true) (hpn : x.rule.parts.length ≤ (nodesT p).length) (hm : MxAt w m) (hs : p.size ≤ 1048576) :
    Calls Tryz.prog 87 #[.agg #[.slice x.fA x.rule.filter.length x.fC, .slice x.pA x.rule.parts.length x.pC, .slice x.eA x.rule.extra.length x.eC], .string p] w fun e w' => ApplyE w w' (takeT x.rule p) e := by
  have hm0 : MxAt (w.alloc (.cells #[.slice x.fA x.rule.filter.length x.fC, .slice x.pA x.rule.parts.length x.pC, .slice x.eA x.rule.extra.length x.eC] 40)) m := hm.below ((Below.refl _ _).alloc (Nat.le_refl _) _)
  have hb0 : Below w.heap.size w (w.alloc (.cells #[.slice x.fA x.rule.filter.length x.fC, .slice x.pA x.rule.parts.length x.pC, .slice x.eA x.rule.extra.length x.eC] 40)) := (Below.refl _ _).alloc (Nat.le_refl _) _
  have h0 := h.bel hb0
  have kS := split_any p m _ hm0 hs
  have hnl := nodesT_len p
  have hnz : Hid (∀ z ∈ nodesT p, z.size ≤ 1048576) := Lib.hid (fun z hz => Nat.le_trans (nodesT_sz hz) hs)
  obtain ⟨_, hp0, hp12, hx8⟩ := good_lens hg
  obtain ⟨R, hR⟩ : ∃ R, takeGo x.rule.parts (nodesT p) [] x.rule.extra = R := ⟨_, rfl⟩
  have hT : takeT x.rule p = (joinT R.1, (sortL R.2).getD []) := by unfold takeT; rw [hR]
  rw [hT]
  have hF := h0.f
  have hP := h0.p
  have hE := h0.e
  generalize nodesT p = ns at *
  clear h h0 hm0 hm hg hT
  obtain ⟨⟨fs, ps, es⟩, fA, fC, pA, pC, eA, eC⟩ := x
  simp only at *
  have H0 : Hid ((∀ z ∈ ([] : List ByteArray), z.size ≤ 1048576) ∧ takeGo (ps.drop 0) (ns.drop 0) [] es = R) := Lib.hid ⟨by simp, hR⟩
  clear hR
  have hW := Blk.new w 40 #[.slice fA fs.length fC, .slice pA ps.length pC, .slice eA es.length eC]
  obtain ⟨i0, hi0, hz0, hz1, hz2⟩ := info_parts Tryz.infoString
  obtain ⟨i1, hi1, hy0, hy1, hy2⟩ := info_parts Tryz.infoLabel
  have hu : Tryz.prog.underlying 31 = some (.slice 9) := by kernel_rfl
  have hu1 : Tryz.prog.underlying 38 = some (.slice 118) := by kernel_rfl
  go_enter Tryz.func87, Tryz.ntmps87
  go_wp2_with (first
    | (go_at_call 146; (with_reducible refine kS.mono ?_); rintro e w1 ⟨rfl, hr1, hb1⟩; have hW1 := hW.below hb1 (Blk.lt hW); have c0 := (Blk.cell hW1 0).trans rfl; have c1 := (Blk.cell hW1 1).trans rfl; have c2 := (Blk.cell hW1 2).trans rfl)
    | (at_builtin; go_loud (refine wpList_append_any _ (by rfl) _ _ _ (by rfl) w1.heap.size 118 i1 _ 2 32 hu1 hi1 hy0 hy1 hy2 rfl (by omega) _ 0 [] (by rfl) (World.ownsRow_nil _ _ _ _) w1.heap.size eA es.length eC _ (by rfl) (labs_reads (hE.bel hb1)) (labs_one es) (by simp [maxLen]; omega) (by omega) (by omega) ?_); intro v2 w2 hown2 hgrow2 hat2; have hW2 := hW1.grown hgrow2 (by simp [Value.ownBlock]); have d1 := (Blk.cell hW2 1).trans rfl))
  rw [Nat.zero_add, List.nil_append] at hown2
  have hbs : (w.alloc (.cells #[.slice fA fs.length fC, .slice pA ps.length pC, .slice eA es.length eC] 40)).heap.size = w.heap.size + 1 := by simp
  rw [hbs] at hr1
  have hz12 := hgrow2.size
  have hbw2 : Below w1.heap.size w1 w2 := (Below.refl _ _).grown hgrow2 (Nat.le_refl _) (by intro k hk; simp [Value.ownBlock] at hk)
  have hb01 := bl_any hb0 hb1
  have hP1 := hP.bel hb1
  clear kS hW hW1 hW2 hgrow2 hat2 c0 c1 c2 hF hE hP
  go_loopw [7, 8, 19] (fun nv lv i wr => Below w1.heap.size w1 wr ∧ ∃ (k : Nat) (nm : List ByteArray) (lb : List Lab), k ≤ ps.length ∧ i = .int .i64 k ∧ nm.length ≤ 1048577 * k ∧ lb.length ≤ 8 + k ∧ wr.ownsRow w1.heap.size 9 1 nv nm.length (nm.flatMap strCell) ∧ wr.ownsRow w1.heap.size 118 2 lv lb.length (lb.flatMap labCell) ∧ Hid ((∀ z ∈ nm, z.size ≤ 1048576) ∧ takeGo (ps.drop k) (ns.drop k) nm lb = R)) (fun _ _ i _ => ps.length - (intOf i).toNat)
  case atStart => exact ⟨hbw2, 0, [], es, by omega, rfl, by simp, by omega, World.ownsRow_nil _ _ _ _, hown2, H0⟩
  case round =>
    obtain ⟨hbw, k, nm, lb, hk, rfl, hnm, hlb, hn, hl, HR⟩ := hrel
    clear hown2 hbw2 H0 d1 hz12
    have hws := hbw.size
    by_cases hlt : k < ps.length
    · have hdk : decide ((k : Int) < (ps.length : Int)) = true := decide_eq_true (by omega)
      have hk0 : (0 : Int) ≤ k := by omega
      have hk1 : (k : Int) < (ps.length : Int) := by omega
      have hk2 : (k : Int) < (ns.length : Int) := by omega
      have hk3 : (k : Int) ≤ (ns.length : Int) := by omega
      obtain ⟨b, off, x, rfl, hgb, hx, e0⟩ := str_at (hP1.bel hbw) hlt
      obtain ⟨b2, off2, y, hAA, _, hy, e1⟩ := str_at (hr1.bel hbw) (show k < ns.length by omega)
      injection hAA with hAA
      injection hAA with hA1 hA2
      subst hA1; subst hA2
      simp only [Nat.zero_add] at e1
      have HM := Lib.hid (isM_toL x)
      have HT := Lib.hid (isT_toL x)
      have HK := Lib.hid (isK_toL x)
      have HP := Lib.hid (drop_at hx)
      have HN := Lib.hid (drop_at hy)
      have HY := Lib.hid (hnz.out y (List.mem_of_getElem? hy))
      have hne := own_ne2 hl hn (by decide)
      have hne2 := own_ne2 hn hl (by decide)
      clear hx hy
      cases qM : (x.toList == [109, 101, 116, 114, 105, 99])
      · cases qT : (x.toList == [109, 101, 116, 114, 105, 99, 42])
        · cases qK : (x.toList == [95])
          · have HF : Hid ((∀ z ∈ nm, z.size ≤ 1048576) ∧ takeGo (ps.drop (k + 1)) (ns.drop (k + 1)) nm (lb ++ [(x, y)]) = R) := Lib.hid ⟨HR.out.1, by
              rw [← HR.out.2, HP.out, HN.out, takeGo_L (by rw [HM.out]; exact qM) (by rw [HT.out]; exact qT) (by rw [HK.out]; exact qK)]⟩
            clear HR HM HT HK HP HN
            go_wp2_with (at_builtin; go_loud (refine wpList_append_lies _ (by rfl) _ _ _ (by rfl) w1.heap.size 118 i1 _ 2 32 hu1 hi1 hy0 hy1 hy2 rfl (by omega) _ lb.length (lb.flatMap labCell) (by rfl) (hl.alloc _) ⟨wr.heap.size, 0, none⟩ 1 1 [.string x, .string y] (by rfl) (by rfl) (World.news_of_block (blk_at (by simp))) (by simp [Value.oneCell']) (by omega) (by simp [maxLen]; omega) (by omega) (by simp; omega) (wr.heap.size + 1) (by simp) ?_); intro gg capg w4 hown4 hgrow hat hlt4)
            exact ⟨⟨(bl_alloc hbw _).grown hgrow (by simp; omega) (fun j e => (hl.lt _ e).1), k + 1, nm, lb ++ [(x, y)], by omega, rfl, by omega, by simp; omega, (hn.alloc _).kept hgrow hne2, by rw [List.length_append, List.flatMap_append]; exact hown4, HF⟩, by (simp only [intOf]; omega)⟩
          · have HF : Hid ((∀ z ∈ nm, z.size ≤ 1048576) ∧ takeGo (ps.drop (k + 1)) (ns.drop (k + 1)) nm lb = R) := Lib.hid ⟨HR.out.1, by
              rw [← HR.out.2, HP.out, HN.out, takeGo_K (by rw [HM.out]; exact qM) (by rw [HT.out]; exact qT) (by rw [HK.out]; exact qK)]⟩
            clear HR HM HT HK HP HN
            go_wp2_with fail
            exact ⟨⟨hbw, k + 1, nm, lb, by omega, rfl, by omega, by omega, hn, hl, HF⟩, by (simp only [intOf]; omega)⟩
        · have HF : Hid ((∀ z ∈ nm ++ ns.drop k, z.size ≤ 1048576) ∧ takeGo (ps.drop (k + 1)) (ns.drop (k + 1)) (nm ++ ns.drop k) lb = R) := Lib.hid ⟨fun z hz => by
              rcases List.mem_append.1 hz with h | h
              · exact HR.out.1 z h
              · exact hnz.out z (List.mem_of_mem_drop h), by
              rw [← HR.out.2, HP.out, HN.out, takeGo_T (by rw [HM.out]; exact qM) (by rw [HT.out]; exact qT)]⟩
          clear HR HM HT HK HP HN
          have hcut := rows_cut k (hr1.bel hbw)
          simp only [Nat.zero_add, Nat.mul_one] at hcut
          go_wp2_with (at_builtin; go_loud (refine wpList_append_any _ (by rfl) _ _ _ (by rfl) w1.heap.size 9 i0 _ 1 16 hu hi0 hz0 hz1 hz2 rfl (by omega) _ nm.length (nm.flatMap strCell) (by rfl) hn wr.heap.size _ (ns.length - k) _ _ (by rfl) (strs_reads hcut) (strs_one (ns.drop k)) (by simp [maxLen]; omega) (by omega) (by omega) ?_); intro v4 w4 hown4 hgrow hat4)
          exact ⟨⟨hbw.grown hgrow (by omega) (fun j e => (hn.lt _ e).1), k + 1, nm ++ ns.drop k, lb, by omega, rfl, by rw [List.length_append, List.length_drop]; omega, by omega, by rw [List.length_append, List.length_drop, List.flatMap_append]; exact hown4, hl.kept hgrow hne, HF⟩, by (simp only [intOf]; omega)⟩
      · have HF : Hid ((∀ z ∈ nm ++ [y], z.size ≤ 1048576) ∧ takeGo (ps.drop (k + 1)) (ns.drop (k + 1)) (nm ++ [y]) lb = R) := Lib.hid ⟨fun z hz => by
            rcases List.mem_append.1 hz with h | h
            · exact HR.out.1 z h
            · rw [List.mem_singleton] at h; rw [h]; exact HY.out, by
            rw [← HR.out.2, HP.out, HN.out, takeGo_M (by rw [HM.out]; exact qM)]⟩
        clear HR HM HT HK HP HN
        go_wp2_with (at_builtin; go_loud (refine wpList_append_lies _ (by rfl) _ _ _ (by rfl) w1.heap.size 9 i0 _ 1 16 hu hi0 hz0 hz1 hz2 rfl (by omega) _ nm.length (nm.flatMap strCell) (by rfl) (hn.alloc _) ⟨wr.heap.size, 0, none⟩ 1 1 [.string y] (by rfl) (by rfl) (World.news_of_block (blk_at (by simp))) (by simp [Value.oneCell']) (by omega) (by simp [maxLen]; omega) (by omega) (by simp; omega) (wr.heap.size + 1) (by simp) ?_); intro gg capg w4 hown4 hgrow hat hlt4)
        exact ⟨⟨(bl_alloc hbw _).grown hgrow (by simp; omega) (fun j e => (hn.lt _ e).1), k + 1, nm ++ [y], lb, by omega, rfl, by simp; omega, by omega, by rw [List.length_append, List.flatMap_append]; exact hown4, (hl.alloc _).kept hgrow hne, HF⟩, by (simp only [intOf]; omega)⟩
    · have hdk : decide ((k : Int) < (ps.length : Int)) = false := decide_eq_false (by omega)
      obtain rfl : k = ps.length := by omega
      obtain ⟨hnz2, hR⟩ := HR.out
      rw [List.drop_length, takeGo] at hR
      subst hR
      try simp only
      obtain ⟨lA, lc, rfl, hlr⟩ := own_rws (f := labCell) (fun _ => rfl) hl rfl
      obtain ⟨nA, nc, rfl, hnr, hnc⟩ := own_rwc (f := strCell) (fun _ => rfl) hn rfl
      have kL := sortB_any lA lb.length lc lb wr hlr (by omega)
      have kJ := fun W (hb : Below wr.heap.size wr W) => join_any nA nm.length nc nm W.heap.size W (hnr.bel hb) (Nat.le_refl _) (by omega) hnc hnz2
      clear HR
      go_wp2_with (first
        | (go_at_call 90; (with_reducible refine kL.mono ?_); rintro e w5 ⟨⟨A5, n5, c5, rfl, hr5, _, _⟩, hb5⟩)
        | (go_at_call 148; (with_reducible refine (kJ _ hb5).mono ?_); rintro e w6 ⟨rfl, hb6⟩))
      go_ret2
      exact ⟨⟨A5, n5, c5, rfl, hr5.bel hb6⟩, bl_any hb01 ((hbw.trans (hb5.mono hws)).trans (hb6.mono (Nat.le_trans hws hb5.size)))⟩
/-! ### the first rule that matches -/
def ruleCell (x : VRule) : List Value := [.slice x.fA x.rule.filter.length x.fC, .slice x.pA x.rule.parts.length x.pC, .slice x.eA x.rule.extra.length x.eC]
theorem match_facts {r : MRule} {p : ByteArray} (h : matchT r p = true) : goodR r = true ∧ r.parts.length ≤ (nodesT p).length := by
  unfold matchT fitsN at h
  simp only [Bool.and_eq_true, Bool.not_eq_true', Bool.or_eq_false_iff, decide_eq_false_iff_not] at h
  exact ⟨h.1, by omega⟩
theorem apply_no {x : VRule} {xs : List VRule} {p : ByteArray} (h : matchT x.rule p = false) : applyT ((x :: xs).map VRule.rule) p = applyT (xs.map VRule.rule) p := by
  unfold applyT
  rw [List.map_cons, List.find?_cons, h]
theorem apply_yes {x : VRule} {xs : List VRule} {p : ByteArray} (h : matchT x.rule p = true) : applyT ((x :: xs).map VRule.rule) p = takeT x.rule p := by
  unfold applyT
  rw [List.map_cons, List.find?_cons, h]
set_option maxRecDepth 100000 in
set_option maxHeartbeats 3200000 in
theorem apply_any (A : Option Addr) (n cap : Nat) (xs : List VRule) (p : ByteArray) (m : Int) (w : World) (hl : IsRows ruleCell 3 w w.heap.size A n xs) (hr : ∀ x ∈ xs, RuleAt w w.heap.size x ∧ RuleOk x.rule) (hn : n ≤ 2097152) (hm : MxAt w m) (hs : p.size ≤ 1048576) :
    Calls Tryz.prog 46 #[.slice A n cap, .string p] w fun e w' => ApplyE w w' (applyT (xs.map VRule.rule) p) e := by
  have hll := hl.1
  obtain ⟨R, hR⟩ : ∃ R, applyT (xs.map VRule.rule) p = R := ⟨_, rfl⟩
  have H0 : Hid (applyT ((xs.drop 0).map VRule.rule) p = R) := Lib.hid (by rw [List.drop_zero]; exact hR)
  rw [hR]
  have HA := Lib.hid hr
  clear hR hr
  go_enter Tryz.func46, Tryz.ntmps46
  go_wp2_with fail
  go_loopw [10] (fun i wr => Below w.heap.size w wr ∧ ∃ k : Nat, k ≤ n ∧ i = .int .i64 k ∧ Hid (applyT ((xs.drop k).map VRule.rule) p = R)) (fun i _ => n - (intOf i).toNat)
  case atStart => exact ⟨Below.refl _ _, 0, by omega, rfl, H0⟩
  case round =>
    obtain ⟨hbw, k, hk, rfl, HR⟩ := hrel
    clear H0
    by_cases hlt : k < n
    · have hdk : decide ((k : Int) < n) = true := decide_eq_true (by omega)
      have hk0 : (0 : Int) ≤ k := by omega
      have hk1 : (k : Int) < n := by omega
      obtain ⟨b, off, rfl, hb, hcs⟩ := (hl.bel hbw).2 (by omega)
      obtain ⟨X, hX⟩ : ∃ X, xs[k]? = some X := ⟨_, List.getElem?_eq_getElem (by omega)⟩
      obtain ⟨hra, hok⟩ := HA.out X (List.mem_of_getElem? hX)
      have q0 : wr.cell? ⟨b, off + k * 3, none⟩ = some (.slice X.fA X.rule.filter.length X.fC) := hcs k X 0 _ hX rfl
      have q1 : wr.cell? ⟨b, off + k * 3 + 1, none⟩ = some (.slice X.pA X.rule.parts.length X.pC) := hcs k X 1 _ hX rfl
      have q2 : wr.cell? ⟨b, off + k * 3 + 2, none⟩ = some (.slice X.eA X.rule.extra.length X.eC) := hcs k X 2 _ hX rfl
      have HD := Lib.hid (drop_at hX)
      have hB := Blk.new wr 40 #[.slice X.fA X.rule.filter.length X.fC, .slice X.pA X.rule.parts.length X.pC, .slice X.eA X.rule.extra.length X.eC]
      have hbX := bl_alloc hbw (.cells #[.slice X.fA X.rule.filter.length X.fC, .slice X.pA X.rule.parts.length X.pC, .slice X.eA X.rule.extra.length X.eC] 40)
      have c0 := (Blk.cell hB 0).trans rfl
      have c1 := (Blk.cell hB 1).trans rfl
      have c2 := (Blk.cell hB 2).trans rfl
      have kM := match_any X p m _ (hra.bel hbX) hok (hm.below hbX) hs
      clear hcs hX
      cases hq : matchT X.rule p
      · rw [hq] at kM
        have HF : Hid (applyT ((xs.drop (k + 1)).map VRule.rule) p = R) := Lib.hid (by rw [← HR.out, HD.out, apply_no hq])
        clear HR HD hq
        go_wp2_with (go_at_call 86; (with_reducible refine kM.mono ?_); rintro e w1 ⟨rfl, hb1⟩)
        exact ⟨⟨bl_any hbX hb1, k + 1, by omega, rfl, HF⟩, by (simp only [intOf]; omega)⟩
      · rw [hq] at kM
        have HF : Hid (takeT X.rule p = R) := Lib.hid (by rw [← HR.out, HD.out, apply_yes hq])
        obtain ⟨hg, hpn⟩ := match_facts hq
        have kA := fun W (hb : Below w.heap.size w W) => apply1_any X p m W (hra.bel hb) hg hpn (hm.below hb) hs
        clear HR HD hq hg hpn
        go_wp2_with (first
          | (go_at_call 86; (with_reducible refine kM.mono ?_); rintro e w1 ⟨rfl, hb1⟩; have hB1 := hB.below hb1 (Blk.lt hB); have d0 := (Blk.cell hB1 0).trans rfl; have d1 := (Blk.cell hB1 1).trans rfl; have d2 := (Blk.cell hB1 2).trans rfl)
          | (go_at_call 87; (with_reducible refine (kA _ (bl_any hbX hb1)).mono ?_); rintro e w2 ⟨⟨A2, n2, c2, rfl, hr2⟩, hb2⟩))
        go_ret2
        exact ⟨⟨A2, n2, c2, by rw [← HF.out]; rfl, by rw [← HF.out]; exact hr2⟩, bl_any (bl_any hbX hb1) hb2⟩
    · have hdk : decide ((k : Int) < n) = false := decide_eq_false (by omega)
      have hR := HR.out
      rw [List.drop_of_length_le (by omega)] at hR
      simp only [List.map_nil, applyT, List.find?_nil] at hR
      subst hR
      clear HR
      go_wp2_with fail
      go_ret2
      exact ⟨⟨none, 0, 0, rfl, IsRows.nil_⟩, hbw⟩
end
section
theorem own_low {w : World} {base base' : Nat} {e : TypeId} {size n : Nat} {v : Value} {xs : List Value} (h : w.ownsRow base e size v n xs) (hb : base' ≤ base) : w.ownsRow base' e size v n xs := by
  obtain ⟨hl, h | ⟨g, cap, cur, hv, hg, r⟩⟩ := h
  · exact ⟨hl, .inl h⟩
  · exact ⟨hl, .inr ⟨g, cap, cur, hv, by omega, r⟩⟩
/-- What Apply hands back: a name, labels of its own. -/
structure ApplyO (w w' : World) (R : ByteArray × List Lab) (e : Ending) : Prop where
  e : ∃ A n c, e = .returned (.tuple #[.string R.1, .slice A n c]) ∧ w'.ownsRow w.heap.size 118 2 (.slice A n c) n (R.2.flatMap labCell) ∧ R.2.length = n
  b : Below w.heap.size w w'
set_option maxRecDepth 100000 in
set_option maxHeartbeats 6400000 in
theorem apply1o_any (x : VRule) (p : ByteArray) (m : Int) (w : World) (h : RuleAt w w.heap.size x) (hg : goodR x.rule = true) (hpn : x.rule.parts.length ≤ (nodesT p).length) (hm : MxAt w m) (hs : p.size ≤ 1048576) :
    Calls Tryz.prog 87 #[.agg #[.slice x.fA x.rule.filter.length x.fC, .slice x.pA x.rule.parts.length x.pC, .slice x.eA x.rule.extra.length x.eC], .string p] w fun e w' => ApplyO w w' (takeT x.rule p) e := by
  have hm0 : MxAt (w.alloc (.cells #[.slice x.fA x.rule.filter.length x.fC, .slice x.pA x.rule.parts.length x.pC, .slice x.eA x.rule.extra.length x.eC] 40)) m := hm.below ((Below.refl _ _).alloc (Nat.le_refl _) _)
  have hb0 : Below w.heap.size w (w.alloc (.cells #[.slice x.fA x.rule.filter.length x.fC, .slice x.pA x.rule.parts.length x.pC, .slice x.eA x.rule.extra.length x.eC] 40)) := (Below.refl _ _).alloc (Nat.le_refl _) _
  have h0 := h.bel hb0
  have kS := split_any p m _ hm0 hs
  have hnl := nodesT_len p
  have hnz : Hid (∀ z ∈ nodesT p, z.size ≤ 1048576) := Lib.hid (fun z hz => Nat.le_trans (nodesT_sz hz) hs)
  obtain ⟨_, hp0, hp12, hx8⟩ := good_lens hg
  obtain ⟨R, hR⟩ : ∃ R, takeGo x.rule.parts (nodesT p) [] x.rule.extra = R := ⟨_, rfl⟩
  have hT : takeT x.rule p = (joinT R.1, (sortL R.2).getD []) := by unfold takeT; rw [hR]
  rw [hT]
  have hF := h0.f
  have hP := h0.p
  have hE := h0.e
  generalize nodesT p = ns at *
  clear h h0 hm0 hm hg hT
  obtain ⟨⟨fs, ps, es⟩, fA, fC, pA, pC, eA, eC⟩ := x
  simp only at *
  have H0 : Hid ((∀ z ∈ ([] : List ByteArray), z.size ≤ 1048576) ∧ takeGo (ps.drop 0) (ns.drop 0) [] es = R) := Lib.hid ⟨by simp, hR⟩
  clear hR
  have hW := Blk.new w 40 #[.slice fA fs.length fC, .slice pA ps.length pC, .slice eA es.length eC]
  obtain ⟨i0, hi0, hz0, hz1, hz2⟩ := info_parts Tryz.infoString
  obtain ⟨i1, hi1, hy0, hy1, hy2⟩ := info_parts Tryz.infoLabel
  have hu : Tryz.prog.underlying 31 = some (.slice 9) := by kernel_rfl
  have hu1 : Tryz.prog.underlying 38 = some (.slice 118) := by kernel_rfl
  go_enter Tryz.func87, Tryz.ntmps87
  go_wp2_with (first
    | (go_at_call 146; (with_reducible refine kS.mono ?_); rintro e w1 ⟨rfl, hr1, hb1⟩; have hW1 := hW.below hb1 (Blk.lt hW); have c0 := (Blk.cell hW1 0).trans rfl; have c1 := (Blk.cell hW1 1).trans rfl; have c2 := (Blk.cell hW1 2).trans rfl)
    | (at_builtin; go_loud (refine wpList_append_any _ (by rfl) _ _ _ (by rfl) w1.heap.size 118 i1 _ 2 32 hu1 hi1 hy0 hy1 hy2 rfl (by omega) _ 0 [] (by rfl) (World.ownsRow_nil _ _ _ _) w1.heap.size eA es.length eC _ (by rfl) (labs_reads (hE.bel hb1)) (labs_one es) (by simp [maxLen]; omega) (by omega) (by omega) ?_); intro v2 w2 hown2 hgrow2 hat2; have hW2 := hW1.grown hgrow2 (by simp [Value.ownBlock]); have d1 := (Blk.cell hW2 1).trans rfl))
  rw [Nat.zero_add, List.nil_append] at hown2
  have hbs : (w.alloc (.cells #[.slice fA fs.length fC, .slice pA ps.length pC, .slice eA es.length eC] 40)).heap.size = w.heap.size + 1 := by simp
  rw [hbs] at hr1
  have hz12 := hgrow2.size
  have hbw2 : Below w1.heap.size w1 w2 := (Below.refl _ _).grown hgrow2 (Nat.le_refl _) (by intro k hk; simp [Value.ownBlock] at hk)
  have hb01 := bl_any hb0 hb1
  have hP1 := hP.bel hb1
  clear kS hW hW1 hW2 hgrow2 hat2 c0 c1 c2 hF hE hP
  go_loopw [7, 8, 19] (fun nv lv i wr => Below w1.heap.size w1 wr ∧ ∃ (k : Nat) (nm : List ByteArray) (lb : List Lab), k ≤ ps.length ∧ i = .int .i64 k ∧ nm.length ≤ 1048577 * k ∧ lb.length ≤ 8 + k ∧ wr.ownsRow w1.heap.size 9 1 nv nm.length (nm.flatMap strCell) ∧ wr.ownsRow w1.heap.size 118 2 lv lb.length (lb.flatMap labCell) ∧ Hid ((∀ z ∈ nm, z.size ≤ 1048576) ∧ takeGo (ps.drop k) (ns.drop k) nm lb = R)) (fun _ _ i _ => ps.length - (intOf i).toNat)
  case atStart => exact ⟨hbw2, 0, [], es, by omega, rfl, by simp, by omega, World.ownsRow_nil _ _ _ _, hown2, H0⟩
  case round =>
    obtain ⟨hbw, k, nm, lb, hk, rfl, hnm, hlb, hn, hl, HR⟩ := hrel
    clear hown2 hbw2 H0 d1 hz12
    have hws := hbw.size
    by_cases hlt : k < ps.length
    · have hdk : decide ((k : Int) < (ps.length : Int)) = true := decide_eq_true (by omega)
      have hk0 : (0 : Int) ≤ k := by omega
      have hk1 : (k : Int) < (ps.length : Int) := by omega
      have hk2 : (k : Int) < (ns.length : Int) := by omega
      have hk3 : (k : Int) ≤ (ns.length : Int) := by omega
      obtain ⟨b, off, x, rfl, hgb, hx, e0⟩ := str_at (hP1.bel hbw) hlt
      obtain ⟨b2, off2, y, hAA, _, hy, e1⟩ := str_at (hr1.bel hbw) (show k < ns.length by omega)
      injection hAA with hAA
      injection hAA with hA1 hA2
      subst hA1; subst hA2
      simp only [Nat.zero_add] at e1
      have HM := Lib.hid (isM_toL x)
      have HT := Lib.hid (isT_toL x)
      have HK := Lib.hid (isK_toL x)
      have HP := Lib.hid (drop_at hx)
      have HN := Lib.hid (drop_at hy)
      have HY := Lib.hid (hnz.out y (List.mem_of_getElem? hy))
      have hne := own_ne2 hl hn (by decide)
      have hne2 := own_ne2 hn hl (by decide)
      clear hx hy
      cases qM : (x.toList == [109, 101, 116, 114, 105, 99])
      · cases qT : (x.toList == [109, 101, 116, 114, 105, 99, 42])
        · cases qK : (x.toList == [95])
          · have HF : Hid ((∀ z ∈ nm, z.size ≤ 1048576) ∧ takeGo (ps.drop (k + 1)) (ns.drop (k + 1)) nm (lb ++ [(x, y)]) = R) := Lib.hid ⟨HR.out.1, by
              rw [← HR.out.2, HP.out, HN.out, takeGo_L (by rw [HM.out]; exact qM) (by rw [HT.out]; exact qT) (by rw [HK.out]; exact qK)]⟩
            clear HR HM HT HK HP HN
            go_wp2_with (at_builtin; go_loud (refine wpList_append_lies _ (by rfl) _ _ _ (by rfl) w1.heap.size 118 i1 _ 2 32 hu1 hi1 hy0 hy1 hy2 rfl (by omega) _ lb.length (lb.flatMap labCell) (by rfl) (hl.alloc _) ⟨wr.heap.size, 0, none⟩ 1 1 [.string x, .string y] (by rfl) (by rfl) (World.news_of_block (blk_at (by simp))) (by simp [Value.oneCell']) (by omega) (by simp [maxLen]; omega) (by omega) (by simp; omega) (wr.heap.size + 1) (by simp) ?_); intro gg capg w4 hown4 hgrow hat hlt4)
            exact ⟨⟨(bl_alloc hbw _).grown hgrow (by simp; omega) (fun j e => (hl.lt _ e).1), k + 1, nm, lb ++ [(x, y)], by omega, rfl, by omega, by simp; omega, (hn.alloc _).kept hgrow hne2, by rw [List.length_append, List.flatMap_append]; exact hown4, HF⟩, by (simp only [intOf]; omega)⟩
          · have HF : Hid ((∀ z ∈ nm, z.size ≤ 1048576) ∧ takeGo (ps.drop (k + 1)) (ns.drop (k + 1)) nm lb = R) := Lib.hid ⟨HR.out.1, by
              rw [← HR.out.2, HP.out, HN.out, takeGo_K (by rw [HM.out]; exact qM) (by rw [HT.out]; exact qT) (by rw [HK.out]; exact qK)]⟩
            clear HR HM HT HK HP HN
            go_wp2_with fail
            exact ⟨⟨hbw, k + 1, nm, lb, by omega, rfl, by omega, by omega, hn, hl, HF⟩, by (simp only [intOf]; omega)⟩
        · have HF : Hid ((∀ z ∈ nm ++ ns.drop k, z.size ≤ 1048576) ∧ takeGo (ps.drop (k + 1)) (ns.drop (k + 1)) (nm ++ ns.drop k) lb = R) := Lib.hid ⟨fun z hz => by
              rcases List.mem_append.1 hz with h | h
              · exact HR.out.1 z h
              · exact hnz.out z (List.mem_of_mem_drop h), by
              rw [← HR.out.2, HP.out, HN.out, takeGo_T (by rw [HM.out]; exact qM) (by rw [HT.out]; exact qT)]⟩
          clear HR HM HT HK HP HN
          have hcut := rows_cut k (hr1.bel hbw)
          simp only [Nat.zero_add, Nat.mul_one] at hcut
          go_wp2_with (at_builtin; go_loud (refine wpList_append_any _ (by rfl) _ _ _ (by rfl) w1.heap.size 9 i0 _ 1 16 hu hi0 hz0 hz1 hz2 rfl (by omega) _ nm.length (nm.flatMap strCell) (by rfl) hn wr.heap.size _ (ns.length - k) _ _ (by rfl) (strs_reads hcut) (strs_one (ns.drop k)) (by simp [maxLen]; omega) (by omega) (by omega) ?_); intro v4 w4 hown4 hgrow hat4)
          exact ⟨⟨hbw.grown hgrow (by omega) (fun j e => (hn.lt _ e).1), k + 1, nm ++ ns.drop k, lb, by omega, rfl, by rw [List.length_append, List.length_drop]; omega, by omega, by rw [List.length_append, List.length_drop, List.flatMap_append]; exact hown4, hl.kept hgrow hne, HF⟩, by (simp only [intOf]; omega)⟩
      · have HF : Hid ((∀ z ∈ nm ++ [y], z.size ≤ 1048576) ∧ takeGo (ps.drop (k + 1)) (ns.drop (k + 1)) (nm ++ [y]) lb = R) := Lib.hid ⟨fun z hz => by
            rcases List.mem_append.1 hz with h | h
            · exact HR.out.1 z h
            · rw [List.mem_singleton] at h; rw [h]; exact HY.out, by
            rw [← HR.out.2, HP.out, HN.out, takeGo_M (by rw [HM.out]; exact qM)]⟩
        clear HR HM HT HK HP HN
        go_wp2_with (at_builtin; go_loud (refine wpList_append_lies _ (by rfl) _ _ _ (by rfl) w1.heap.size 9 i0 _ 1 16 hu hi0 hz0 hz1 hz2 rfl (by omega) _ nm.length (nm.flatMap strCell) (by rfl) (hn.alloc _) ⟨wr.heap.size, 0, none⟩ 1 1 [.string y] (by rfl) (by rfl) (World.news_of_block (blk_at (by simp))) (by simp [Value.oneCell']) (by omega) (by simp [maxLen]; omega) (by omega) (by simp; omega) (wr.heap.size + 1) (by simp) ?_); intro gg capg w4 hown4 hgrow hat hlt4)
        exact ⟨⟨(bl_alloc hbw _).grown hgrow (by simp; omega) (fun j e => (hn.lt _ e).1), k + 1, nm ++ [y], lb, by omega, rfl, by simp; omega, by omega, by rw [List.length_append, List.flatMap_append]; exact hown4, (hl.alloc _).kept hgrow hne, HF⟩, by (simp only [intOf]; omega)⟩
    · have hdk : decide ((k : Int) < (ps.length : Int)) = false := decide_eq_false (by omega)
      obtain rfl : k = ps.length := by omega
      obtain ⟨hnz2, hR⟩ := HR.out
      rw [List.drop_length, takeGo] at hR
      subst hR
      try simp only
      obtain ⟨lA, lc, rfl, hlr⟩ := own_rws (f := labCell) (fun _ => rfl) hl rfl
      obtain ⟨nA, nc, rfl, hnr, hnc⟩ := own_rwc (f := strCell) (fun _ => rfl) hn rfl
      have kL := sortO_any lA lb.length lc lb wr hlr (by omega)
      have kJ := fun W (hb : Below wr.heap.size wr W) => join_any nA nm.length nc nm W.heap.size W (hnr.bel hb) (Nat.le_refl _) (by omega) hnc hnz2
      clear HR
      go_wp2_with (first
        | (go_at_call 90; (with_reducible refine kL.mono ?_); rintro e w5 ⟨⟨A5, n5, c5, rfl, ho5, hn5⟩, hb5⟩)
        | (go_at_call 148; (with_reducible refine (kJ _ hb5).mono ?_); rintro e w6 ⟨rfl, hb6⟩))
      go_ret2
      exact ⟨⟨A5, n5, c5, rfl, own_low (own_bel ho5 hb6) (Nat.le_trans hb01.size hws), hn5⟩, bl_any hb01 ((hbw.trans (hb5.mono hws)).trans (hb6.mono (Nat.le_trans hws hb5.size)))⟩
set_option maxRecDepth 100000 in
set_option maxHeartbeats 3200000 in
theorem applyo_any (A : Option Addr) (n cap : Nat) (xs : List VRule) (p : ByteArray) (m : Int) (w : World) (hl : IsRows ruleCell 3 w w.heap.size A n xs) (hr : ∀ x ∈ xs, RuleAt w w.heap.size x ∧ RuleOk x.rule) (hn : n ≤ 2097152) (hm : MxAt w m) (hs : p.size ≤ 1048576) :
    Calls Tryz.prog 46 #[.slice A n cap, .string p] w fun e w' => ApplyO w w' (applyT (xs.map VRule.rule) p) e := by
  have hll := hl.1
  obtain ⟨R, hR⟩ : ∃ R, applyT (xs.map VRule.rule) p = R := ⟨_, rfl⟩
  have H0 : Hid (applyT ((xs.drop 0).map VRule.rule) p = R) := Lib.hid (by rw [List.drop_zero]; exact hR)
  rw [hR]
  have HA := Lib.hid hr
  clear hR hr
  go_enter Tryz.func46, Tryz.ntmps46
  go_wp2_with fail
  go_loopw [10] (fun i wr => Below w.heap.size w wr ∧ ∃ k : Nat, k ≤ n ∧ i = .int .i64 k ∧ Hid (applyT ((xs.drop k).map VRule.rule) p = R)) (fun i _ => n - (intOf i).toNat)
  case atStart => exact ⟨Below.refl _ _, 0, by omega, rfl, H0⟩
  case round =>
    obtain ⟨hbw, k, hk, rfl, HR⟩ := hrel
    clear H0
    by_cases hlt : k < n
    · have hdk : decide ((k : Int) < n) = true := decide_eq_true (by omega)
      have hk0 : (0 : Int) ≤ k := by omega
      have hk1 : (k : Int) < n := by omega
      obtain ⟨b, off, rfl, hb, hcs⟩ := (hl.bel hbw).2 (by omega)
      obtain ⟨X, hX⟩ : ∃ X, xs[k]? = some X := ⟨_, List.getElem?_eq_getElem (by omega)⟩
      obtain ⟨hra, hok⟩ := HA.out X (List.mem_of_getElem? hX)
      have q0 : wr.cell? ⟨b, off + k * 3, none⟩ = some (.slice X.fA X.rule.filter.length X.fC) := hcs k X 0 _ hX rfl
      have q1 : wr.cell? ⟨b, off + k * 3 + 1, none⟩ = some (.slice X.pA X.rule.parts.length X.pC) := hcs k X 1 _ hX rfl
      have q2 : wr.cell? ⟨b, off + k * 3 + 2, none⟩ = some (.slice X.eA X.rule.extra.length X.eC) := hcs k X 2 _ hX rfl
      have HD := Lib.hid (drop_at hX)
      have hB := Blk.new wr 40 #[.slice X.fA X.rule.filter.length X.fC, .slice X.pA X.rule.parts.length X.pC, .slice X.eA X.rule.extra.length X.eC]
      have hbX := bl_alloc hbw (.cells #[.slice X.fA X.rule.filter.length X.fC, .slice X.pA X.rule.parts.length X.pC, .slice X.eA X.rule.extra.length X.eC] 40)
      have c0 := (Blk.cell hB 0).trans rfl
      have c1 := (Blk.cell hB 1).trans rfl
      have c2 := (Blk.cell hB 2).trans rfl
      have kM := match_any X p m _ (hra.bel hbX) hok (hm.below hbX) hs
      clear hcs hX
      cases hq : matchT X.rule p
      · rw [hq] at kM
        have HF : Hid (applyT ((xs.drop (k + 1)).map VRule.rule) p = R) := Lib.hid (by rw [← HR.out, HD.out, apply_no hq])
        clear HR HD hq
        go_wp2_with (go_at_call 86; (with_reducible refine kM.mono ?_); rintro e w1 ⟨rfl, hb1⟩)
        exact ⟨⟨bl_any hbX hb1, k + 1, by omega, rfl, HF⟩, by (simp only [intOf]; omega)⟩
      · rw [hq] at kM
        have HF : Hid (takeT X.rule p = R) := Lib.hid (by rw [← HR.out, HD.out, apply_yes hq])
        obtain ⟨hg, hpn⟩ := match_facts hq
        have kA := fun W (hb : Below w.heap.size w W) => apply1o_any X p m W (hra.bel hb) hg hpn (hm.below hb) hs
        clear HR HD hq hg hpn
        go_wp2_with (first
          | (go_at_call 86; (with_reducible refine kM.mono ?_); rintro e w1 ⟨rfl, hb1⟩; have hB1 := hB.below hb1 (Blk.lt hB); have d0 := (Blk.cell hB1 0).trans rfl; have d1 := (Blk.cell hB1 1).trans rfl; have d2 := (Blk.cell hB1 2).trans rfl)
          | (go_at_call 87; (with_reducible refine (kA _ (bl_any hbX hb1)).mono ?_); rintro e w2 ⟨⟨A2, n2, c2, rfl, ho2, hn2⟩, hb2⟩))
        go_ret2
        exact ⟨⟨A2, n2, c2, by rw [← HF.out]; rfl, by rw [← HF.out]; exact own_low ho2 (bl_any hbX hb1).size, by rw [← HF.out]; exact hn2⟩, bl_any (bl_any hbX hb1) hb2⟩
    · have hdk : decide ((k : Int) < n) = false := decide_eq_false (by omega)
      have hR := HR.out
      rw [List.drop_of_length_le (by omega)] at hR
      simp only [List.map_nil, applyT, List.find?_nil] at hR
      subst hR
      clear HR
      go_wp2_with fail
      go_ret2
      exact ⟨⟨none, 0, 0, rfl, World.ownsRow_nil _ _ _ _, rfl⟩, hbw⟩
end
end Go.Proofs.YtoplengednoldaaGreatDoor
