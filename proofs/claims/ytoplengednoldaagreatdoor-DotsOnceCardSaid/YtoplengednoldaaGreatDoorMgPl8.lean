/- Rows of a payload, their tags, their fields, as data and as cells (no program in sight). The line format: a text's rows, and where it can't go on, as plain functions (no program in sight). Classes of bytes (no program in sight). The dotted format: a text's rows, and where it can't go on, as plain functions (no program in sight). A text judged by a machine of states over its bytes: how far it can go; what hangs on its beginning alone; the scanner's words as ways through such a machine (no program in sight). The line format's machine of states: what the rows' functions answer is its verdict; ends that close each state (no program in sight). A machine of states over a text's bytes: stages, forks, numbers, for any machine (no program in sight). The dotted format's machine of states: what the rows' functions answer is its verdict; ends that close each state (no program in sight). -/
import Derived.Test.YtoplengednoldaaGreatDoorScanDef
namespace Go.Proofs.YtoplengednoldaaGreatDoor
set_option linter.unusedVariables false
set_option linter.unusedSimpArgs false
open Go.RowKit
section
structure MTag where
  name : ByteArray
  value : ByteArray
  off : Nat
  pos : Nat
deriving Inhabited
structure MField where
  name : ByteArray
  value : ByteArray
  off : Nat
  pos : Nat
  kind : Nat
deriving Inhabited
structure MRow where
  kind : Nat
  name : ByteArray
  off : Nat
  tags : List MTag
  fields : List MField
  text : ByteArray
  pos : Nat
  timed : Bool
  time : ByteArray
  when_ : Nat
deriving Inhabited
def tagCell (t : MTag) : List Value := [.string t.name, .string t.value, .int .i64 t.off, .int .i64 t.pos]
def fieldCell (f : MField) : List Value := [.string f.name, .string f.value, .int .i64 f.off, .int .i64 f.pos, .int .i64 f.kind]
/-- A row and where its tags, its fields lie. -/
structure VRow where
  row : MRow
  tA : Option Addr
  tc : Nat
  fA : Option Addr
  fc : Nat
def rowCell (x : VRow) : List Value := [.int .i64 x.row.kind, .string x.row.name, .int .i64 x.row.off, .slice x.tA x.row.tags.length x.tc, .slice x.fA x.row.fields.length x.fc, .string x.row.text, .int .i64 x.row.pos, .bool x.row.timed, .string x.row.time, .int .i64 x.row.when_]
theorem rowCell_len (x : VRow) : (rowCell x).length = 10 := rfl
end
section
def inM : List UInt8 := [44, 32]
def inK : List UInt8 := [44, 32, 61]
def inT : List UInt8 := [34, 92]
def wTrue : List UInt8 := [116, 114, 117, 101]
def wFalse : List UInt8 := [102, 97, 108, 115, 101]
/-- A tag: its name, =, its value. -/
def tagS (l : List UInt8) (a : Nat) (no : Bool) : MTag × Nat × Bool :=
  let k := sgn l inK false a no
  let e := wordS l [61] k.2.1 k.2.2
  let v := sgn l inK true e.1 e.2
  (⟨mkS k.1, mkS v.1, a, e.1⟩, v.2)
def tagsS (l : List UInt8) : Nat → Nat → Bool → List MTag → List MTag × Nat × Bool
  | 0, a, _, acc => (acc, a, true)
  | f + 1, a, no, acc => if isB l a no 44 then tagsS l f (tagS l (a + 1) false).2.1 (tagS l (a + 1) false).2.2 (acc ++ [(tagS l (a + 1) false).1]) else (acc, a, no)
/-- What a field is: its kind, its value, where that begins. -/
def numberS (l : List UInt8) (a : Nat) (no : Bool) : (Nat × List UInt8 × Nat) × Nat × Bool :=
  let m := numS l a no
  if isB l m.1 m.2 105 then ((1, cutL l a m.1, a), m.1 + 1, false)
  else if !isB l a no 45 && isB l m.1 m.2 117 then ((2, cutL l a m.1, a), m.1 + 1, false)
  else if isB l m.1 m.2 46 then ((0, cutL l a m.1 ++ 46 :: cutL l (m.1 + 1) (someS l digB (m.1 + 1) false).1, a), someS l digB (m.1 + 1) false)
  else ((0, cutL l a m.1, a), m)
def toldS (l : List UInt8) (a : Nat) (no : Bool) : (Nat × List UInt8 × Nat) × Nat × Bool :=
  if isB l a no 116 then ((3, wTrue, a), wordS l wTrue a no)
  else if isB l a no 102 then ((3, wFalse, a), wordS l wFalse a no)
  else if isB l a no 34 then ((4, inkV l 34 inT 110 (a + 1) false, a + 1), wordS l [34] (ink l 34 inT 110 (a + 1) false).2.1 (ink l 34 inT 110 (a + 1) false).2.2)
  else numberS l a no
/-- .. -/
def fieldS (l : List UInt8) (a : Nat) (no : Bool) : MField × Nat × Bool :=
  let k := sgn l inK false a no
  let e := wordS l [61] k.2.1 k.2.2
  let t := toldS l e.1 e.2
  (⟨mkS k.1, mkS t.1.2.1, a, t.1.2.2, t.1.1⟩, t.2)
def fieldsS (l : List UInt8) : Nat → Nat → Bool → List MField → List MField × Nat × Bool
  | 0, a, _, acc => (acc, a, true)
  | f + 1, a, no, acc => if isB l (fieldS l a no).2.1 (fieldS l a no).2.2 44 then fieldsS l f ((fieldS l a no).2.1 + 1) false (acc ++ [(fieldS l a no).1]) else (acc ++ [(fieldS l a no).1], (fieldS l a no).2)
def lineS (l : List UInt8) (a : Nat) : MRow × Nat × Bool :=
  let n := sgn l inM false a (isB l a false 35)
  let t := tagsS l (l.length + 1) n.2.1 n.2.2 []
  let w := wordS l [32] t.2.1 t.2.2
  let f := fieldsS l (l.length + 1) w.1 w.2 []
  if isB l f.2.1 f.2.2 32 then
    (⟨0, mkS n.1, a, t.1, f.1, mkS [], 0, true, mkS (cutL l (f.2.1 + 1) (numS l (f.2.1 + 1) false).1), f.2.1 + 1⟩, wordS l [10] (numS l (f.2.1 + 1) false).1 (numS l (f.2.1 + 1) false).2)
  else (⟨0, mkS n.1, a, t.1, f.1, mkS [], 0, false, mkS [], 0⟩, wordS l [10] f.2.1 f.2.2)
def rowsGo (lineS : List UInt8 → Nat → MRow × Nat × Bool) (l : List UInt8) : Nat → Nat → List MRow → List MRow × Nat × Bool
  | 0, a, acc => (acc, a, true)
  | f + 1, a, acc => if l.length ≤ a then (acc, a, false) else if (lineS l a).2.2 then (acc, (lineS l a).2.1, true) else rowsGo lineS l f (lineS l a).2.1 (acc ++ [(lineS l a).1])
def lineRows (l : List UInt8) : List MRow × Nat × Bool := rowsGo lineS l (l.length + 1) 0 []
def lineBad (l : List UInt8) : Int := if (lineRows l).2.2 then ((lineRows l).2.1 : Int) else -1
end
section
def owLabel (c : Int) : Bool := letB c || (digB c || c == 95)
def owName (c : Int) : Bool := letB c || (digB c || (c == 95 || c == 58))
def smB (c : Int) : Bool := decide (97 ≤ c) && decide (c ≤ 122)
def stName (c : Int) : Bool := letB c || (digB c || (c == 95 || (c == 45 || c == 46)))
def stInk (c : Int) : Bool := decide (32 < c) && (decide (c < 127) && !(c == 124))
def stValue (c : Int) : Bool := stInk c && !(c == 44)
def dtNode (c : Int) : Bool := letB c || (digB c || (c == 95 || (c == 45 || c == 58)))
def tmInk (c : Int) : Bool := decide (32 < c) && (decide (c < 127) && (!(c == 59) && !(c == 44)))
def dtInk (c : Int) : Bool := decide (32 < c) && (decide (c < 127) && !(c == 59))
end
section
/-- Behind a node: points and nodes. -/
def dRestS (l : List UInt8) : Nat → Nat → Bool → Nat × Bool
  | 0, a, _ => (a, true)
  | f + 1, a, no => if isB l a no 46 then dRestS l f (someS l dtNode (a + 1) false).1 (someS l dtNode (a + 1) false).2 else (a, no)
def dPathS (l : List UInt8) (a : Nat) : Nat × Bool := dRestS l (l.length + 1) (someS l dtNode a false).1 (someS l dtNode a false).2
/-- A tag: its name, =, its value. -/
def dTagS (l : List UInt8) (a : Nat) (no : Bool) : MTag × Nat × Bool :=
  let k := someS l dtNode a no
  let e := wordS l [61] k.1 k.2
  let v := someS l dtInk e.1 e.2
  (⟨mkS (cutL l a k.1), mkS (cutL l e.1 v.1), a, e.1⟩, v)
def dTagsGo (l : List UInt8) : Nat → Nat → Bool → List MTag → List MTag × Nat × Bool
  | 0, a, _, acc => (acc, a, true)
  | f + 1, a, no, acc => if isB l a no 59 then dTagsGo l f (dTagS l (a + 1) false).2.1 (dTagS l (a + 1) false).2.2 (acc ++ [(dTagS l (a + 1) false).1]) else (acc, a, no)
def dotLineS (l : List UInt8) (a : Nat) : MRow × Nat × Bool :=
  let n := dPathS l a
  let t := dTagsGo l (l.length + 1) n.1 n.2 []
  let w := wordS l [32] t.2.1 t.2.2
  let d := decS l w.1 w.2
  let u := wordS l [32] d.1 d.2
  let k := numS l u.1 u.2
  (⟨0, mkS (cutL l a n.1), a, t.1, [], mkS (cutL l w.1 d.1), w.1, true, mkS (cutL l u.1 k.1), u.1⟩, wordS l [10] k.1 k.2)
def dotRows (l : List UInt8) : List MRow × Nat × Bool := rowsGo dotLineS l (l.length + 1) 0 []
def dotBad (l : List UInt8) : Int := if (dotRows l).2.2 then ((dotRows l).2.1 : Int) else -1
section
variable {l : List UInt8}
theorem dRestS_le : ∀ f a no, a ≤ l.length → a ≤ (dRestS l f a no).1 ∧ (dRestS l f a no).1 ≤ l.length
  | 0, a, no, h => ⟨Nat.le_refl _, h⟩
  | f + 1, a, no, h => by
    unfold dRestS
    split
    · rename_i hi
      have := (isB_lt hi).1
      have h1 := someS_le l dtNode (a + 1) false (by omega)
      have ih := dRestS_le f (someS l dtNode (a + 1) false).1 (someS l dtNode (a + 1) false).2 h1.2
      omega
    · exact ⟨Nat.le_refl _, h⟩
theorem dPathS_le {a : Nat} (h : a ≤ l.length) : a ≤ (dPathS l a).1 ∧ (dPathS l a).1 ≤ l.length := by
  unfold dPathS
  have h1 := someS_le l dtNode a false h
  have h2 := dRestS_le (l := l) (l.length + 1) (someS l dtNode a false).1 (someS l dtNode a false).2 h1.2
  omega
theorem dTagS_le {a : Nat} (no : Bool) (h : a ≤ l.length) : a ≤ (dTagS l a no).2.1 ∧ (dTagS l a no).2.1 ≤ l.length := by
  unfold dTagS
  simp only
  have h1 := someS_le l dtNode a no h
  generalize someS l dtNode a no = k at h1 ⊢
  have h2 := wordS_le l [61] k.1 k.2 h1.2
  generalize wordS l [61] k.1 k.2 = e at h2 ⊢
  have h3 := someS_le l dtInk e.1 e.2 h2.2
  omega
theorem dTagsGo_le : ∀ f a no acc, a ≤ l.length → a ≤ (dTagsGo l f a no acc).2.1 ∧ (dTagsGo l f a no acc).2.1 ≤ l.length
  | 0, a, no, acc, h => ⟨Nat.le_refl _, h⟩
  | f + 1, a, no, acc, h => by
    unfold dTagsGo
    split
    · rename_i hi
      have := (isB_lt hi).1
      have h1 := dTagS_le (l := l) (a := a + 1) false (by omega)
      have ih := dTagsGo_le f (dTagS l (a + 1) false).2.1 (dTagS l (a + 1) false).2.2 (acc ++ [(dTagS l (a + 1) false).1]) h1.2
      omega
    · exact ⟨Nat.le_refl _, h⟩
theorem dotLineS_le {a : Nat} (h : a ≤ l.length) : a ≤ (dotLineS l a).2.1 ∧ (dotLineS l a).2.1 ≤ l.length := by
  unfold dotLineS
  simp only
  have h1 := dPathS_le (l := l) h
  generalize dPathS l a = n at h1 ⊢
  have h2 := dTagsGo_le (l := l) (l.length + 1) n.1 n.2 [] h1.2
  generalize dTagsGo l (l.length + 1) n.1 n.2 [] = t at h2 ⊢
  have h3 := wordS_le l [32] t.2.1 t.2.2 h2.2
  generalize wordS l [32] t.2.1 t.2.2 = w at h3 ⊢
  have h4 := decS_le l w.1 w.2 h3.2
  generalize decS l w.1 w.2 = d at h4 ⊢
  have h5 := wordS_le l [32] d.1 d.2 h4.2
  generalize wordS l [32] d.1 d.2 = u at h5 ⊢
  have h6 := numS_le l u.1 u.2 h5.2
  generalize numS l u.1 u.2 = k at h6 ⊢
  have h7 := wordS_le l [10] k.1 k.2 h6.2
  omega
end
end
section
def vdGo {Q : Type} (st : Q → Int → Option Q) (ac : Q → Bool) : Q → List UInt8 → Nat → Int
  | q, [], k => if ac q then -1 else k
  | q, c :: cs, k => match st q c.toNat with
    | none => k
    | some q' => vdGo st ac q' cs (k + 1)
section
variable {Q : Type} {st : Q → Int → Option Q} {ac : Q → Bool}
theorem vdGo_bd : ∀ (l : List UInt8) (q : Q) (k : Nat), vdGo st ac q l k = -1 ∨ ((k : Int) ≤ vdGo st ac q l k ∧ vdGo st ac q l k ≤ k + l.length)
  | [], q, k => by unfold vdGo; cases ac q <;> simp
  | c :: cs, q, k => by
    unfold vdGo
    cases h : st q c.toNat with
    | none => right; simp; omega
    | some q' =>
      have := vdGo_bd cs q' (k + 1)
      simp only [List.length_cons]
      omega
theorem vdGo_far : ∀ (l : List UInt8) (q : Q) (b k : Nat), vdGo st ac q l b = (k : Int) → k < b + l.length → ∀ e, vdGo st ac q (l.take (k + 1 - b) ++ e) b = k
  | [], q, b, k, h, h2, e => by
    exfalso
    have := vdGo_bd (st := st) (ac := ac) [] q b
    simp at this h2
    omega
  | c :: cs, q, b, k, h, h2, e => by
    unfold vdGo at h
    have hb : b ≤ k := by
      have := vdGo_bd (st := st) (ac := ac) (c :: cs) q b
      unfold vdGo at this
      omega
    rw [show k + 1 - b = (k - b) + 1 by omega, List.take_succ_cons, List.cons_append]
    unfold vdGo
    cases hs : st q c.toNat with
    | none => rw [hs] at h; exact h
    | some q' =>
      rw [hs] at h
      have hb2 : b + 1 ≤ k := by
        have := vdGo_bd (st := st) (ac := ac) cs q' (b + 1)
        simp only at h
        omega
      have := vdGo_far cs q' (b + 1) k h (by simp only [List.length_cons] at h2; omega) e
      rw [show k + 1 - (b + 1) = k - b by omega] at this
      exact this
theorem vdGo_reach : ∀ (n : Nat) (l : List UInt8) (q : Q) (b : Nat), n ≤ l.length → (vdGo st ac q l b = -1 ∨ ((b + n : Nat) : Int) ≤ vdGo st ac q l b) → ∃ q', (∀ t, vdGo st ac q (l.take n ++ t) b = vdGo st ac q' t (b + n)) ∧ vdGo st ac q l b = vdGo st ac q' (l.drop n) (b + n)
  | 0, l, q, b, _, _ => ⟨q, fun t => by simp, by simp⟩
  | n + 1, [], q, b, h, _ => by simp at h
  | n + 1, c :: cs, q, b, h, h2 => by
    unfold vdGo at h2
    cases hs : st q c.toNat with
    | none => rw [hs] at h2; simp only at h2; omega
    | some q' =>
      rw [hs] at h2
      obtain ⟨q2, hq, hq2⟩ := vdGo_reach n cs q' (b + 1) (by simpa using h) (by simp only at h2; omega)
      refine ⟨q2, fun t => ?_, ?_⟩
      · rw [List.take_succ_cons, List.cons_append]
        conv => lhs; unfold vdGo
        rw [hs]
        simp only
        rw [hq t, show b + 1 + n = b + (n + 1) by omega]
      · conv => lhs; unfold vdGo
        rw [hs]
        simp only
        rw [hq2, List.drop_succ_cons, show b + 1 + n = b + (n + 1) by omega]
theorem vdGo_pre (l : List UInt8) (q : Q) (k : Nat) (h : vdGo st ac q l 0 = (k : Int)) : vdGo st ac q (l.take k) 0 = k ∨ vdGo st ac q (l.take k) 0 = -1 := by
  have hb := vdGo_bd (st := st) (ac := ac) l q 0
  obtain ⟨q', hq, _⟩ := vdGo_reach (st := st) (ac := ac) k l q 0 (by omega) (by right; omega)
  have := hq []
  rw [List.append_nil] at this
  rw [this]
  unfold vdGo
  cases ac q' <;> simp
theorem vdGo_app (l : List UInt8) (q : Q) (h : vdGo st ac q l 0 = -1) : ∃ q', ac q' = true ∧ ∀ t, vdGo st ac q (l ++ t) 0 = vdGo st ac q' t l.length := by
  obtain ⟨q', hq, hq2⟩ := vdGo_reach (st := st) (ac := ac) l.length l q 0 (Nat.le_refl _) (.inl h)
  rw [List.take_length] at hq
  rw [List.drop_length, h] at hq2
  refine ⟨q', ?_, fun t => by rw [hq t, Nat.zero_add]⟩
  unfold vdGo at hq2
  cases hc : ac q'
  · rw [hc] at hq2; simp only [Bool.false_eq_true, if_false] at hq2; omega
  · rfl
theorem vdGo_neg : ∀ (l : List UInt8) (q : Q) (b b' : Nat), vdGo st ac q l b = -1 → vdGo st ac q l b' = -1
  | [], q, b, b', h => by
    unfold vdGo at h ⊢
    cases hc : ac q
    · rw [hc] at h; simp only [Bool.false_eq_true, if_false] at h; omega
    · rfl
  | c :: cs, q, b, b', h => by
    unfold vdGo at h ⊢
    cases hs : st q c.toNat with
    | none => rw [hs] at h; simp only at h; omega
    | some q' => rw [hs] at h; exact vdGo_neg cs q' _ _ h
variable {l : List UInt8}
/-- The verdict from a state at a place. -/
def vd (st : Q → Int → Option Q) (ac : Q → Bool) (l : List UInt8) (q : Q) (a : Nat) : Int := vdGo st ac q (l.drop a) a
theorem vd_yes {q q' : Q} {a : Nat} (h : a < l.length) (k : st q (bt l a) = some q') : vd st ac l q a = vd st ac l q' (a + 1) := by
  unfold vd
  rw [List.drop_eq_getElem_cons h]
  conv => lhs; unfold vdGo
  rw [← bt_get h, k]
theorem vd_no {q : Q} {a : Nat} (h : a < l.length) (k : st q (bt l a) = none) : vd st ac l q a = a := by
  unfold vd
  rw [List.drop_eq_getElem_cons h]
  conv => lhs; unfold vdGo
  rw [← bt_get h, k]
theorem vd_end {q : Q} {a : Nat} (h : l.length ≤ a) (k : ac q = false) : vd st ac l q a = a := by
  unfold vd
  rw [List.drop_of_length_le h]
  unfold vdGo
  rw [k]; rfl
theorem vd_acc {q : Q} {a : Nat} (h : l.length ≤ a) (k : ac q = true) : vd st ac l q a = -1 := by
  unfold vd
  rw [List.drop_of_length_le h]
  unfold vdGo
  rw [k]; rfl
/-- One byte that must be. -/
theorem vd_byte {q q' : Q} {c : Int} (hac : ac q = false) (hy : st q c = some q') (hn : ∀ d, d ≠ c → st q d = none) (a : Nat) : vd st ac l q a = if isB l a false c then vd st ac l q' (a + 1) else (a : Int) := by
  by_cases h : a < l.length
  · by_cases e : bt l a = c
    · have : isB l a false c = true := by simp [isB, pkB, h, e]
      rw [this, if_pos rfl]
      exact vd_yes h (by rw [e]; exact hy)
    · have : isB l a false c = false := by simp [isB, e]
      rw [this]
      exact vd_no h (hn _ e)
  · have : isB l a false c = false := by simp [isB, pkB, h]
    rw [this]
    exact vd_end (by omega) hac
end
inductive UQ where
  | u1 | u2 | u3 | e0 | ed | f0 | f4
def uFirst (c : Int) : Option UQ :=
  if c < 194 then none else if c < 224 then some .u1 else if c = 224 then some .e0 else if c = 237 then some .ed else if c < 240 then some .u2 else if c = 240 then some .f0 else if c < 244 then some .u3 else if c = 244 then some .f4 else none
def uNext : UQ → Int → Option (Option UQ)
  | .u1, c => if 128 ≤ c ∧ c ≤ 191 then some none else none
  | .u2, c => if 128 ≤ c ∧ c ≤ 191 then some (some .u1) else none
  | .u3, c => if 128 ≤ c ∧ c ≤ 191 then some (some .u2) else none
  | .e0, c => if 160 ≤ c ∧ c ≤ 191 then some (some .u1) else none
  | .ed, c => if 128 ≤ c ∧ c ≤ 159 then some (some .u1) else none
  | .f0, c => if 144 ≤ c ∧ c ≤ 191 then some (some .u2) else none
  | .f4, c => if 128 ≤ c ∧ c ≤ 143 then some (some .u2) else none
section
variable {Q : Type} {st : Q → Int → Option Q} {ac : Q → Bool} {l : List UInt8}
structure UStep (st : Q → Int → Option Q) (ac : Q → Bool) (T : Q) (TU : UQ → Q) : Prop where
  next : ∀ u c, st (TU u) c = (uNext u c).map fun o => match o with
    | none => T
    | some u' => TU u'
  acc : ∀ u, ac (TU u) = false
theorem vd_u {T T' : Q} {TU : UQ → Q} (h : UStep st ac T TU) (u : UQ) (lo hi : Int) (he : uNext u = fun c => if lo ≤ c ∧ c ≤ hi then some (match u with | .u1 => none | .u2 => some .u1 | .u3 => some .u2 | .e0 => some .u1 | .ed => some .u1 | .f0 => some .u2 | .f4 => some .u2) else none)
    (hT : T' = match u with | .u1 => T | .u2 => TU .u1 | .u3 => TU .u2 | .e0 => TU .u1 | .ed => TU .u1 | .f0 => TU .u2 | .f4 => TU .u2) (p : Nat) :
    vd st ac l (TU u) p = if p < l.length ∧ lo ≤ bt l p ∧ bt l p ≤ hi then vd st ac l T' (p + 1) else (p : Int) := by
  by_cases hp : p < l.length
  · by_cases hb : lo ≤ bt l p ∧ bt l p ≤ hi
    · rw [if_pos ⟨hp, hb⟩]
      refine vd_yes hp ?_
      rw [h.next, he]
      simp only
      rw [if_pos hb, hT]
      cases u <;> rfl
    · rw [if_neg (fun x => hb x.2)]
      refine vd_no hp ?_
      rw [h.next, he]
      simp only
      rw [if_neg hb]; rfl
  · rw [if_neg (fun x => hp x.1)]
    exact vd_end (by omega) (h.acc u)
theorem frGo2 (l : List UInt8) (a : Nat) : frGo l a 2 4 1 = if tailB l a 1 = true then (2, true) else (1, false) := by
  simp [frGo]
theorem frGo3 (l : List UInt8) (a : Nat) : frGo l a 3 4 1 = if tailB l a 1 = true then (if tailB l a 2 = true then (3, true) else (2, false)) else (1, false) := by
  simp [frGo]
theorem frGo4 (l : List UInt8) (a : Nat) : frGo l a 4 4 1 = if tailB l a 1 = true then (if tailB l a 2 = true then (if tailB l a 3 = true then (4, true) else (3, false)) else (2, false)) else (1, false) := by
  simp [frGo]
theorem tailB_iff (l : List UInt8) (a k : Nat) : tailB l a k = true ↔ a + k < l.length ∧ kLo (bt l a) k ≤ bt l (a + k) ∧ bt l (a + k) ≤ kHi (bt l a) k := by
  simp [tailB]
theorem ite_vd (b : Bool) {x : Int} {y : Int} {n : Nat} {a : Nat} {V : Nat → Int} (hb : b = true → x = V (a + n)) (hc : b = false → y = ((a + n : Nat) : Int)) : (if b = true then x else y) = if (n, b).2 = true then V (a + (n, b).1) else ((a + (n, b).1 : Nat) : Int) := by
  cases b
  · simpa using hc rfl
  · simpa using hb rfl
theorem vd_f2 {T X : Q} {a : Nat} {lo hi : Int} (g : ∀ p, vd st ac l X p = if p < l.length ∧ lo ≤ bt l p ∧ bt l p ≤ hi then vd st ac l T (p + 1) else (p : Int)) (hlo : uLo (bt l a) = lo) (hhi : uHi (bt l a) = hi) :
    vd st ac l X (a + 1) = if (frGo l a 2 4 1).2 = true then vd st ac l T (a + (frGo l a 2 4 1).1) else ((a + (frGo l a 2 4 1).1 : Nat) : Int) := by
  have t1 := tailB_iff l a 1
  simp only [kLo, kHi, if_true, hlo, hhi] at t1
  rw [frGo2, g]
  by_cases e1 : tailB l a 1 = true
  · rw [if_pos (t1.1 e1), if_pos e1]; simp
  · rw [if_neg (fun x => e1 (t1.2 x)), if_neg e1]; simp
theorem vd_f3 {T X Y : Q} {a : Nat} {lo hi : Int} (g : ∀ p, vd st ac l X p = if p < l.length ∧ lo ≤ bt l p ∧ bt l p ≤ hi then vd st ac l Y (p + 1) else (p : Int)) (gy : ∀ p, vd st ac l Y p = if p < l.length ∧ 128 ≤ bt l p ∧ bt l p ≤ 191 then vd st ac l T (p + 1) else (p : Int)) (hlo : uLo (bt l a) = lo) (hhi : uHi (bt l a) = hi) :
    vd st ac l X (a + 1) = if (frGo l a 3 4 1).2 = true then vd st ac l T (a + (frGo l a 3 4 1).1) else ((a + (frGo l a 3 4 1).1 : Nat) : Int) := by
  have t1 := tailB_iff l a 1
  have t2 := tailB_iff l a 2
  simp only [kLo, kHi, if_true, hlo, hhi, show ¬ (2 = 1) by decide, if_false] at t1 t2
  rw [frGo3, g]
  by_cases e1 : tailB l a 1 = true
  · rw [if_pos (t1.1 e1), if_pos e1, gy]
    by_cases e2 : tailB l a 2 = true
    · rw [if_pos (t2.1 e2), if_pos e2]; simp
    · rw [if_neg (fun x => e2 (t2.2 x)), if_neg e2]; simp; omega
  · rw [if_neg (fun x => e1 (t1.2 x)), if_neg e1]; simp
theorem vd_f4 {T X Y Z : Q} {a : Nat} {lo hi : Int} (g : ∀ p, vd st ac l X p = if p < l.length ∧ lo ≤ bt l p ∧ bt l p ≤ hi then vd st ac l Y (p + 1) else (p : Int)) (gy : ∀ p, vd st ac l Y p = if p < l.length ∧ 128 ≤ bt l p ∧ bt l p ≤ 191 then vd st ac l Z (p + 1) else (p : Int)) (gz : ∀ p, vd st ac l Z p = if p < l.length ∧ 128 ≤ bt l p ∧ bt l p ≤ 191 then vd st ac l T (p + 1) else (p : Int)) (hlo : uLo (bt l a) = lo) (hhi : uHi (bt l a) = hi) :
    vd st ac l X (a + 1) = if (frGo l a 4 4 1).2 = true then vd st ac l T (a + (frGo l a 4 4 1).1) else ((a + (frGo l a 4 4 1).1 : Nat) : Int) := by
  have t1 := tailB_iff l a 1
  have t2 := tailB_iff l a 2
  have t3 := tailB_iff l a 3
  simp only [kLo, kHi, if_true, hlo, hhi, show ¬ (2 = 1) by decide, show ¬ (3 = 1) by decide, if_false] at t1 t2 t3
  rw [frGo4, g]
  by_cases e1 : tailB l a 1 = true
  · rw [if_pos (t1.1 e1), if_pos e1, gy]
    by_cases e2 : tailB l a 2 = true
    · rw [if_pos (t2.1 e2), if_pos e2, gz]
      by_cases e3 : tailB l a 3 = true
      · rw [if_pos (t3.1 e3), if_pos e3]; simp
      · rw [if_neg (fun x => e3 (t3.2 x)), if_neg e3]; simp; omega
    · rw [if_neg (fun x => e2 (t2.2 x)), if_neg e2]; simp; omega
  · rw [if_neg (fun x => e1 (t1.2 x)), if_neg e1]; simp
theorem vd_front {T : Q} {T0 : Q} {TU : UQ → Q} (h : UStep st ac T TU) {a : Nat} (ha : a < l.length) (hc : 128 ≤ bt l a) (h0 : st T0 (bt l a) = (uFirst (bt l a)).map TU) :
    vd st ac l T0 a = if (frontU l a).2 = true then vd st ac l T (a + (frontU l a).1) else ((a + (frontU l a).1 : Nat) : Int) := by
  have g1 := fun p => vd_u (l := l) (T' := T) h .u1 128 191 (by funext c; rfl) rfl p
  have g2 := fun p => vd_u (l := l) (T' := TU .u1) h .u2 128 191 (by funext c; rfl) rfl p
  have g3 := fun p => vd_u (l := l) (T' := TU .u2) h .u3 128 191 (by funext c; rfl) rfl p
  have g4 := fun p => vd_u (l := l) (T' := TU .u1) h .e0 160 191 (by funext c; rfl) rfl p
  have g5 := fun p => vd_u (l := l) (T' := TU .u1) h .ed 128 159 (by funext c; rfl) rfl p
  have g6 := fun p => vd_u (l := l) (T' := TU .u2) h .f0 144 191 (by funext c; rfl) rfl p
  have g7 := fun p => vd_u (l := l) (T' := TU .u2) h .f4 128 143 (by funext c; rfl) rfl p
  have key : ∀ (n : Nat) (x : Option UQ), uSize (bt l a) = n → uFirst (bt l a) = x → (n = 0 → x = none) → (n ≠ 0 → ∃ u, x = some u ∧ vd st ac l (TU u) (a + 1) = if (frGo l a n 4 1).2 = true then vd st ac l T (a + (frGo l a n 4 1).1) else ((a + (frGo l a n 4 1).1 : Nat) : Int)) →
      vd st ac l T0 a = if (frontU l a).2 = true then vd st ac l T (a + (frontU l a).1) else ((a + (frontU l a).1 : Nat) : Int) := by
    intro n x e1 e2 z1 z2
    unfold frontU
    rw [e1]
    by_cases hn : n = 0
    · rw [if_pos hn, vd_no ha (by rw [h0, e2, z1 hn]; rfl)]; simp
    · rw [if_neg hn]
      obtain ⟨u, rfl, hu⟩ := z2 hn
      rw [← hu]
      exact vd_yes ha (by rw [h0, e2]; rfl)
  have hmax := bt_le l a
  by_cases k1 : bt l a < 194
  · exact key 0 none (by unfold uSize; rw [if_neg (by omega), if_pos k1]) (by unfold uFirst; rw [if_pos k1]) (fun _ => rfl) (fun e => absurd rfl e)
  by_cases k2 : bt l a < 224
  · exact key 2 (some .u1) (by unfold uSize; rw [if_neg (by omega), if_neg k1, if_pos k2]) (by unfold uFirst; rw [if_neg k1, if_pos k2]) (fun e => by omega) (fun _ => ⟨_, rfl, vd_f2 g1 (by unfold uLo; rw [if_neg (by omega), if_neg (by omega)]) (by unfold uHi; rw [if_neg (by omega), if_neg (by omega)])⟩)
  by_cases k3 : bt l a < 240
  · have hs : uSize (bt l a) = 3 := by unfold uSize; rw [if_neg (by omega), if_neg k1, if_neg k2, if_pos k3]
    by_cases k4 : bt l a = 224
    · exact key 3 (some .e0) hs (by unfold uFirst; rw [if_neg k1, if_neg k2, if_pos k4]) (fun e => by omega) (fun _ => ⟨_, rfl, vd_f3 g4 g1 (by unfold uLo; rw [if_pos k4]) (by unfold uHi; rw [if_neg (by omega), if_neg (by omega)])⟩)
    by_cases k5 : bt l a = 237
    · exact key 3 (some .ed) hs (by unfold uFirst; rw [if_neg k1, if_neg k2, if_neg k4, if_pos k5]) (fun e => by omega) (fun _ => ⟨_, rfl, vd_f3 g5 g1 (by unfold uLo; rw [if_neg k4, if_neg (by omega)]) (by unfold uHi; rw [if_pos k5])⟩)
    · exact key 3 (some .u2) hs (by unfold uFirst; rw [if_neg k1, if_neg k2, if_neg k4, if_neg k5, if_pos k3]) (fun e => by omega) (fun _ => ⟨_, rfl, vd_f3 g2 g1 (by unfold uLo; rw [if_neg k4, if_neg (by omega)]) (by unfold uHi; rw [if_neg k5, if_neg (by omega)])⟩)
  by_cases k4 : bt l a < 245
  · have hs : uSize (bt l a) = 4 := by unfold uSize; rw [if_neg (by omega), if_neg k1, if_neg k2, if_neg k3, if_pos k4]
    by_cases k5 : bt l a = 240
    · exact key 4 (some .f0) hs (by unfold uFirst; rw [if_neg k1, if_neg k2, if_neg (by omega), if_neg (by omega), if_neg k3, if_pos k5]) (fun e => by omega) (fun _ => ⟨_, rfl, vd_f4 g6 g2 g1 (by unfold uLo; rw [if_neg (by omega), if_pos k5]) (by unfold uHi; rw [if_neg (by omega), if_neg (by omega)])⟩)
    by_cases k6 : bt l a = 244
    · exact key 4 (some .f4) hs (by unfold uFirst; rw [if_neg k1, if_neg k2, if_neg (by omega), if_neg (by omega), if_neg k3, if_neg k5, if_neg (by omega), if_pos k6]) (fun e => by omega) (fun _ => ⟨_, rfl, vd_f4 g7 g2 g1 (by unfold uLo; rw [if_neg (by omega), if_neg k5]) (by unfold uHi; rw [if_neg (by omega), if_pos k6])⟩)
    · exact key 4 (some .u3) hs (by unfold uFirst; rw [if_neg k1, if_neg k2, if_neg (by omega), if_neg (by omega), if_neg k3, if_neg k5, if_pos (by omega)]) (fun e => by omega) (fun _ => ⟨_, rfl, vd_f4 g3 g2 g1 (by unfold uLo; rw [if_neg (by omega), if_neg k5]) (by unfold uHi; rw [if_neg (by omega), if_neg k6])⟩)
  · exact key 0 none (by unfold uSize; rw [if_neg (by omega), if_neg k1, if_neg k2, if_neg k3, if_neg k4]) (by unfold uFirst; rw [if_neg k1, if_neg k2, if_neg (by omega), if_neg (by omega), if_neg k3, if_neg (by omega), if_neg (by omega), if_neg (by omega)]) (fun _ => rfl) (fun e => absurd rfl e)
/-- A word, byte by byte, through states. -/
theorem vd_word : ∀ (w : List UInt8) (qs : List Q) (q q' : Q) (a : Nat), qs.length + 1 = w.length →
    (∀ i (hi : i < w.length), ac ((q :: qs).getD i q) = false ∧ st ((q :: qs).getD i q) (w[i].toNat) = some ((qs ++ [q']).getD i q) ∧ ∀ d : Int, d ≠ w[i].toNat → st ((q :: qs).getD i q) d = none) →
    vd st ac l q a = if (wordS l w a false).2 = true then ((wordS l w a false).1 : Int) else vd st ac l q' (wordS l w a false).1
  | [], qs, q, q', a, hl, _ => by simp at hl
  | c :: cs, qs, q, q', a, hl, h => by
    obtain ⟨h1, h2, h3⟩ := h 0 (by simp)
    simp only [List.getD_cons_zero, List.getElem_cons_zero] at h1 h2 h3
    have hb := vd_byte (l := l) h1 h2 h3 a
    rw [hb]
    unfold wordS
    simp only [Bool.false_eq_true, if_false]
    by_cases hi : isB l a false c.toNat = true
    · rw [if_pos hi, if_pos hi]
      match qs, cs, hl, h with
      | [], [], _, h =>
        simp [wordS]
      | x :: xs, d :: ds, hl, h =>
        have ih := vd_word (d :: ds) xs x q' (a + 1) (by simpa using hl) (fun i hi => by
          obtain ⟨k1, k2, k3⟩ := h (i + 1) (by simpa using hi)
          have e1 : (q :: x :: xs).getD (i + 1) q = (x :: xs).getD i x := by
            rw [List.getD_cons_succ, List.getD_eq_getElem?_getD, List.getD_eq_getElem?_getD]
            have : i < (x :: xs).length := by simp at hl hi ⊢; omega
            rw [List.getElem?_eq_getElem this]; rfl
          have e2 : ((x :: xs) ++ [q']).getD (i + 1) q = (xs ++ [q']).getD i x := by
            rw [List.cons_append, List.getD_cons_succ, List.getD_eq_getElem?_getD, List.getD_eq_getElem?_getD]
            have : i < (xs ++ [q']).length := by simp at hl hi ⊢; omega
            rw [List.getElem?_eq_getElem this]; rfl
          rw [e1] at k1 k2 k3
          rw [e2] at k2
          exact ⟨k1, k2, k3⟩)
        rw [← ih]; rfl
      | [], d :: ds, hl, _ => simp at hl
      | x :: xs, [], hl, _ => simp at hl
    · rw [if_neg hi, if_neg hi]; simp
/-- Bytes of a class, none at least. -/
theorem vd_while {T : Q} {p : Int → Bool} (h : ∀ c, p c = true → st T c = some T) (a : Nat) : vd st ac l T a = vd st ac l T (whA l p a) := by
  have key : ∀ n a, l.length - a ≤ n → vd st ac l T a = vd st ac l T (whA l p a) := by
    intro n
    induction n with
    | zero => intro a ha; rw [whA_end (by omega)]
    | succ n ih =>
      intro a ha
      by_cases hl : a < l.length
      · cases hp : p (bt l a)
        · rw [whA_no hl hp]
        · rw [whA_yes hl hp, vd_yes hl (h _ hp)]
          exact ih (a + 1) (by omega)
      · rw [whA_end (by omega)]
  exact key _ a (Nat.le_refl _)
/-- .. one at least. -/
theorem vd_some {T0 T : Q} {p : Int → Bool} {a : Nat} (h0 : ac T0 = false) (h1 : a < l.length → p (bt l a) = true → st T0 (bt l a) = some T) (h2 : a < l.length → p (bt l a) = false → st T0 (bt l a) = none) (h : ∀ c, p c = true → st T c = some T) :
    vd st ac l T0 a = if (someS l p a false).2 = true then ((someS l p a false).1 : Int) else vd st ac l T (someS l p a false).1 := by
  unfold someS
  simp only [Bool.false_eq_true, if_false]
  by_cases hl : a < l.length
  · cases hp : p (bt l a)
    · rw [whA_no hl hp, vd_no hl (h2 hl hp)]; simp
    · have := (whA_le l p (a + 1) (by omega)).1
      rw [whA_yes hl hp, vd_yes hl (h1 hl hp), vd_while h (a + 1)]
      have e : (whA l p (a + 1) == a) = false := by rw [beq_eq_false_iff_ne]; omega
      rw [e]; simp
  · rw [whA_end (by omega), vd_end (by omega) h0]; simp
theorem whA_stop {p : Int → Bool} : ∀ (n a : Nat), l.length - a ≤ n → whA l p a < l.length → p (bt l (whA l p a)) = false
  | 0, a, hn, h => by
    rw [whA_end (by omega)] at h; omega
  | n + 1, a, hn, h => by
    by_cases hl : a < l.length
    · cases hp : p (bt l a)
      · rw [whA_no hl hp]; exact hp
      · rw [whA_yes hl hp] at h ⊢
        exact whA_stop n (a + 1) (by omega) h
    · rw [whA_end (by omega)] at h; omega
theorem someS_stop {p : Int → Bool} {a : Nat} (h : (someS l p a false).1 < l.length) : p (bt l (someS l p a false).1) = false := whA_stop _ a (Nat.le_refl _) (by simpa [someS] using h)
theorem isB_iff {a : Nat} {c : Int} : isB l a false c = true ↔ a < l.length ∧ bt l a = c := by simp [isB, pkB]
theorem sgnS_stop {m : List UInt8} {wide : Bool} : ∀ f a acc, a ≤ l.length → (sgnS l m wide f a acc).2.2 = false → (sgnS l m wide f a acc).2.1 < l.length →
    ¬ (bt l (sgnS l m wide f a acc).2.1 = 92 ∨ (wide = true ∧ 127 < bt l (sgnS l m wide f a acc).2.1) ∨ (32 < bt l (sgnS l m wide f a acc).2.1 ∧ bt l (sgnS l m wide f a acc).2.1 < 127 ∧ (m.any fun c => bt l (sgnS l m wide f a acc).2.1 == c.toNat) = false))
  | 0, a, acc, _, h, _ => by simp [sgnS] at h
  | f + 1, a, acc, hl, h, h2 => by
    unfold sgnS at h h2 ⊢
    by_cases h1 : l.length ≤ a
    · rw [if_pos h1] at h2; simp only at h2; omega
    rw [if_neg h1] at h h2 ⊢
    by_cases h4 : bt l a = 92
    · rw [if_pos h4] at h h2 ⊢
      by_cases h5 : escB l m a = true
      · rw [if_pos h5] at h h2 ⊢
        have := escB_lt h5
        exact sgnS_stop f _ _ (by omega) h h2
      · rw [if_neg h5] at h; cases h
    rw [if_neg h4] at h h2 ⊢
    by_cases h3 : wide = true ∧ 127 < bt l a
    · rw [if_pos h3] at h h2 ⊢
      by_cases h9 : (frontU l a).2 = true
      · rw [if_pos h9] at h h2 ⊢
        exact sgnS_stop f _ _ (front_le l a (by omega)).2.1 h h2
      · rw [if_neg h9] at h; cases h
    rw [if_neg h3] at h h2 ⊢
    by_cases h6 : 32 < bt l a ∧ bt l a < 127 ∧ (m.any fun c => bt l a == c.toNat) = false
    · rw [if_pos h6] at h h2 ⊢
      exact sgnS_stop f _ _ (by omega) h h2
    · rw [if_neg h6]
      simp only
      rintro (k | k | k)
      · exact h4 k
      · exact h3 k
      · exact h6 k
theorem sgn_stop {m : List UInt8} {wide : Bool} {a : Nat} (hl : a ≤ l.length) (h : (sgn l m wide a false).2.2 = false) (h2 : (sgn l m wide a false).2.1 < l.length) :
    ¬ (bt l (sgn l m wide a false).2.1 = 92 ∨ (wide = true ∧ 127 < bt l (sgn l m wide a false).2.1) ∨ (32 < bt l (sgn l m wide a false).2.1 ∧ bt l (sgn l m wide a false).2.1 < 127 ∧ (m.any fun c => bt l (sgn l m wide a false).2.1 == c.toNat) = false)) := by
  unfold sgn at h h2 ⊢
  simp only [Bool.false_eq_true, if_false, Bool.or_eq_false_iff] at h h2 ⊢
  exact sgnS_stop _ _ _ hl h.1 h2
theorem inkS_stop {e : Int} {m : List UInt8} {n : Int} : ∀ f a acc, a ≤ l.length → (inkS l e m n f a acc).2.2 = false → (inkS l e m n f a acc).2.1 < l.length ∧ bt l (inkS l e m n f a acc).2.1 = e
  | 0, a, acc, _, h => by simp [inkS] at h
  | f + 1, a, acc, hl, h => by
    unfold inkS at h ⊢
    by_cases h1 : l.length ≤ a
    · rw [if_pos h1] at h; cases h
    rw [if_neg h1] at h ⊢
    by_cases h2 : bt l a = e
    · rw [if_pos h2]; exact ⟨by simp; omega, h2⟩
    rw [if_neg h2] at h ⊢
    by_cases h3 : bt l a = 10
    · rw [if_pos h3] at h; cases h
    rw [if_neg h3] at h ⊢
    by_cases h4 : bt l a = 92
    · rw [if_pos h4] at h ⊢
      by_cases h5 : escB l m a = true
      · rw [if_pos h5] at h ⊢
        have := escB_lt h5
        exact inkS_stop f _ _ (by omega) h
      · rw [if_neg h5] at h; cases h
    rw [if_neg h4] at h ⊢
    by_cases h5 : (frontU l a).2 = true
    · rw [if_pos h5] at h ⊢
      exact inkS_stop f _ _ (front_le l a (by omega)).2.1 h
    · rw [if_neg h5] at h; cases h
/-- Scalars up to a byte. -/
theorem vd_ink {T TE : Q} {TU : UQ → Q} {e : Int} {m : List UInt8} {n : Int} (hu : UStep st ac T TU) (hac : ac T = false) (hacE : ac TE = false) (h10 : e ≠ 10 → st T 10 = none) (h92 : e ≠ 92 → st T 92 = some TE)
    (hE : ∀ c, st TE c = if (m.any fun d => c == d.toNat) = true then some T else none) (ha : ∀ c, 0 ≤ c → c < 128 → c ≠ e → c ≠ 10 → c ≠ 92 → st T c = some T) (hw : ∀ c, 128 ≤ c → c ≠ e → st T c = (uFirst c).map TU) :
    ∀ f a acc, l.length < f + a → a ≤ l.length → vd st ac l T a = if (inkS l e m n f a acc).2.2 = true then ((inkS l e m n f a acc).2.1 : Int) else vd st ac l T (inkS l e m n f a acc).2.1
  | 0, a, acc, hf, hl => by omega
  | f + 1, a, acc, hf, hl => by
    unfold inkS
    by_cases h1 : l.length ≤ a
    · rw [if_pos h1, vd_end h1 hac]; simp
    rw [if_neg h1]
    have hlt : a < l.length := by omega
    by_cases h2 : bt l a = e
    · rw [if_pos h2]; simp
    rw [if_neg h2]
    by_cases h3 : bt l a = 10
    · rw [if_pos h3, vd_no hlt (by rw [h3]; exact h10 (by omega))]; simp
    rw [if_neg h3]
    have hf' := front_le l a hlt
    have hb0 := bt_nonneg l a
    by_cases h4 : bt l a = 92
    · rw [if_pos h4, vd_yes hlt (by rw [h4]; exact h92 (by omega))]
      by_cases h5 : escB l m a = true
      · rw [if_pos h5]
        have h6 := escB_lt h5
        have h7 : (m.any fun d => bt l (a + 1) == d.toNat) = true := by simp only [escB, Bool.and_eq_true] at h5; exact h5.2
        rw [vd_yes h6 (by rw [hE, if_pos h7])]
        exact vd_ink hu hac hacE h10 h92 hE ha hw f (a + 2) _ (by omega) (by omega)
      · rw [if_neg h5]
        by_cases h6 : a + 1 < l.length
        · have h7 : ¬ (m.any fun d => bt l (a + 1) == d.toNat) = true := fun h => h5 (by simp only [escB, Bool.and_eq_true, decide_eq_true_eq]; exact ⟨h6, h⟩)
          rw [vd_no h6 (by rw [hE, if_neg h7])]; simp
        · rw [vd_end (by omega) hacE]; simp
    rw [if_neg h4]
    by_cases h8 : bt l a < 128
    · rw [vd_yes hlt (ha _ hb0 h8 h2 h3 h4)]
      have hz : frontU l a = (1, true) := by
        unfold frontU uSize
        rw [if_pos h8]
        simp [frGo]
      rw [hz]
      simp only [if_true]
      exact vd_ink hu hac hacE h10 h92 hE ha hw f (a + 1) _ (by omega) (by omega)
    · rw [vd_front hu hlt (by omega) (hw _ (by omega) h2)]
      by_cases h9 : (frontU l a).2 = true
      · rw [if_pos h9, if_pos h9]
        have := hf'.2.2 h9
        exact vd_ink hu hac hacE h10 h92 hE ha hw f _ _ (by omega) hf'.2.1
      · rw [if_neg h9, if_neg h9]; simp
/-- Signs. -/
structure SStep (st : Q → Int → Option Q) (ac : Q → Bool) (m : List UInt8) (wide : Bool) (T TE : Q) (TU : UQ → Q) : Prop where
  u : wide = true → UStep st ac T TU
  esc : st T 92 = some TE
  accE : ac TE = false
  escd : ∀ c, st TE c = if (m.any fun d => c == d.toNat) = true then some T else none
  one : ∀ c : Int, 32 < c → c < 127 → c ≠ 92 → (m.any fun d => c == d.toNat) = false → st T c = some T
  wd : wide = true → ∀ c, 127 < c → st T c = (uFirst c).map TU
/-- One step of the signs, from a state that may be the first one. -/
theorem sgn_step {m : List UInt8} {wide : Bool} {T TE T0 : Q} {TU : UQ → Q} (h : SStep st ac m wide T TE TU) {f a : Nat} {acc : List UInt8} (hf : l.length < f + 1 + a) (hlt : a < l.length)
    (e0 : bt l a = 92 ∨ (wide = true ∧ 127 < bt l a) ∨ (32 < bt l a ∧ bt l a < 127 ∧ (m.any fun c => bt l a == c.toNat) = false) → st T0 (bt l a) = st T (bt l a))
    (ih : ∀ b acc, a < b → b ≤ l.length → vd st ac l T b = if (sgnS l m wide f b acc).2.2 = true then ((sgnS l m wide f b acc).2.1 : Int) else vd st ac l T (sgnS l m wide f b acc).2.1) :
    (bt l a = 92 ∨ (wide = true ∧ 127 < bt l a) ∨ (32 < bt l a ∧ bt l a < 127 ∧ (m.any fun c => bt l a == c.toNat) = false) → vd st ac l T0 a = if (sgnS l m wide (f + 1) a acc).2.2 = true then ((sgnS l m wide (f + 1) a acc).2.1 : Int) else vd st ac l T (sgnS l m wide (f + 1) a acc).2.1) ∧
    (¬ (bt l a = 92 ∨ (wide = true ∧ 127 < bt l a) ∨ (32 < bt l a ∧ bt l a < 127 ∧ (m.any fun c => bt l a == c.toNat) = false)) → sgnS l m wide (f + 1) a acc = (acc, a, false)) := by
  have h1 : ¬ l.length ≤ a := by omega
  have hf' := front_le l a hlt
  refine ⟨fun hc => ?_, fun hc => ?_⟩
  · have e1 := e0 hc
    unfold sgnS
    rw [if_neg h1]
    by_cases h4 : bt l a = 92
    · rw [if_pos h4, vd_yes hlt (by rw [e1, h4]; exact h.esc)]
      by_cases h5 : escB l m a = true
      · rw [if_pos h5]
        have h6 := escB_lt h5
        have h7 : (m.any fun d => bt l (a + 1) == d.toNat) = true := by simp only [escB, Bool.and_eq_true] at h5; exact h5.2
        rw [vd_yes h6 (by rw [h.escd, if_pos h7])]
        exact ih (a + 2) _ (by omega) (by omega)
      · rw [if_neg h5]
        by_cases h6 : a + 1 < l.length
        · have h7 : ¬ (m.any fun d => bt l (a + 1) == d.toNat) = true := fun h => h5 (by simp only [escB, Bool.and_eq_true, decide_eq_true_eq]; exact ⟨h6, h⟩)
          rw [vd_no h6 (by rw [h.escd, if_neg h7])]; simp
        · rw [vd_end (by omega) h.accE]; simp
    rw [if_neg h4]
    by_cases h2 : wide = true ∧ 127 < bt l a
    · rw [if_pos h2, vd_front (h.u h2.1) hlt (by omega) (by rw [e1]; exact h.wd h2.1 _ h2.2)]
      by_cases h9 : (frontU l a).2 = true
      · rw [if_pos h9, if_pos h9]
        have := hf'.2.2 h9
        exact ih _ _ (by omega) hf'.2.1
      · rw [if_neg h9, if_neg h9]; simp
    rw [if_neg h2]
    have h3 : 32 < bt l a ∧ bt l a < 127 ∧ (m.any fun c => bt l a == c.toNat) = false := by
      rcases hc with hc | hc | hc
      · exact absurd hc h4
      · exact absurd hc h2
      · exact hc
    rw [if_pos h3, vd_yes hlt (by rw [e1]; exact h.one (bt l a) h3.1 h3.2.1 h4 h3.2.2)]
    exact ih (a + 1) _ (by omega) (by omega)
  · unfold sgnS
    rw [if_neg h1, if_neg (fun e => hc (.inl e)), if_neg (fun e => hc (.inr (.inl e))), if_neg (fun e => hc (.inr (.inr e)))]
theorem vd_sgnS {m : List UInt8} {wide : Bool} {T TE : Q} {TU : UQ → Q} (h : SStep st ac m wide T TE TU) : ∀ f a acc, l.length < f + a → a ≤ l.length → vd st ac l T a = if (sgnS l m wide f a acc).2.2 = true then ((sgnS l m wide f a acc).2.1 : Int) else vd st ac l T (sgnS l m wide f a acc).2.1
  | 0, a, acc, hf, hl => by omega
  | f + 1, a, acc, hf, hl => by
    by_cases h1 : l.length ≤ a
    · unfold sgnS
      rw [if_pos h1]; simp
    have hlt : a < l.length := by omega
    have hs := sgn_step (T0 := T) (acc := acc) h hf hlt (fun _ => rfl) (fun b acc hb hb2 => vd_sgnS h f b acc (by omega) hb2)
    by_cases hc : bt l a = 92 ∨ (wide = true ∧ 127 < bt l a) ∨ (32 < bt l a ∧ bt l a < 127 ∧ (m.any fun c => bt l a == c.toNat) = false)
    · exact hs.1 hc
    · rw [hs.2 hc]; simp
theorem vd_sgn {m : List UInt8} {wide : Bool} {T TE T0 : Q} {TU : UQ → Q} (h : SStep st ac m wide T TE TU) {a : Nat} (ha : a ≤ l.length) (h0 : ac T0 = false ∨ a < l.length)
    (e0 : a < l.length → st T0 (bt l a) = if bt l a = 92 ∨ (wide = true ∧ 127 < bt l a) ∨ (32 < bt l a ∧ bt l a < 127 ∧ (m.any fun c => bt l a == c.toNat) = false) then st T (bt l a) else none) :
    vd st ac l T0 a = if (sgn l m wide a false).2.2 = true then ((sgn l m wide a false).2.1 : Int) else vd st ac l T (sgn l m wide a false).2.1 := by
  unfold sgn
  simp only [Bool.false_eq_true, if_false]
  by_cases hlt : a < l.length
  · have e1 := e0 hlt
    have hs := sgn_step (T0 := T0) (acc := []) h (f := l.length) (by omega) hlt (fun hc => by rw [e1, if_pos hc]) (fun b acc hb hb2 => vd_sgnS h l.length b acc (by omega) hb2)
    by_cases hc : bt l a = 92 ∨ (wide = true ∧ 127 < bt l a) ∨ (32 < bt l a ∧ bt l a < 127 ∧ (m.any fun c => bt l a == c.toNat) = false)
    · rw [hs.1 hc]
      have hne : (sgnS l m wide (l.length + 1) a []).2.2 = false → (sgnS l m wide (l.length + 1) a []).2.1 ≠ a := fun hno => by
        have h1 : ¬ l.length ≤ a := by omega
        have hf' := front_le l a hlt
        unfold sgnS at hno ⊢
        rw [if_neg h1] at hno ⊢
        by_cases h4 : bt l a = 92
        · rw [if_pos h4] at hno ⊢
          by_cases h5 : escB l m a = true
          · rw [if_pos h5] at hno ⊢
            have := escB_lt h5
            have := (sgnS_le l m wide l.length (a + 2) ([] ++ [l.getD (a + 1) 0]) (by omega)).1
            omega
          · rw [if_neg h5] at hno; cases hno
        rw [if_neg h4] at hno ⊢
        by_cases h2 : wide = true ∧ 127 < bt l a
        · rw [if_pos h2] at hno ⊢
          by_cases h9 : (frontU l a).2 = true
          · rw [if_pos h9] at hno ⊢
            have h10 := hf'.2.2 h9
            have := (sgnS_le l m wide l.length (a + (frontU l a).1) ([] ++ cutL l a (a + (frontU l a).1)) hf'.2.1).1
            omega
          · rw [if_neg h9] at hno; cases hno
        rw [if_neg h2] at hno ⊢
        have h3 : 32 < bt l a ∧ bt l a < 127 ∧ (m.any fun c => bt l a == c.toNat) = false := by
          rcases hc with hc | hc | hc
          · exact absurd hc h4
          · exact absurd hc h2
          · exact hc
        rw [if_pos h3] at hno ⊢
        have := (sgnS_le l m wide l.length (a + 1) ([] ++ [l.getD a 0]) (by omega)).1
        omega
      cases hno : (sgnS l m wide (l.length + 1) a []).2.2
      · have : ((sgnS l m wide (l.length + 1) a []).2.1 == a) = false := by rw [beq_eq_false_iff_ne]; exact hne hno
        rw [this]; simp
      · simp
    · rw [hs.2 hc, vd_no hlt (by rw [e1, if_neg hc])]; simp
  · have : sgnS l m wide (l.length + 1) a [] = ([], a, false) := by
      unfold sgnS
      rw [if_pos (by omega)]
    rw [this, vd_end (by omega) (by rcases h0 with h0 | h0; exact h0; exact absurd h0 hlt)]; simp
end
end
section
inductive LQ where
  | line | nm | nmE | tk0 | tk | tkE | tv0 | tv | tvE | tvU (u : UQ) | fk0 | fk | fkE | fv
  | t1 | t2 | t3 | f1 | f2 | f3 | f4 | ve | neg | iM | iP | dot | fr | qq | qE | qU (u : UQ) | tm0 | tmN | tm
def mB (m : List UInt8) (c : Int) : Bool := m.any fun d => c == d.toNat
def reB (m : List UInt8) (c : Int) : Bool := decide (32 < c) && decide (c < 127) && !mB m c
def afterV (c : Int) : Option LQ := if c = 44 then some .fk0 else if c = 32 then some .tm0 else if c = 10 then some .line else none
def stL : LQ → Int → Option LQ
  | .line, c => if c = 35 then none else if c = 92 then some .nmE else if reB inM c then some .nm else none
  | .nm, c => if c = 92 then some .nmE else if reB inM c then some .nm else if c = 44 then some .tk0 else if c = 32 then some .fk0 else none
  | .nmE, c => if mB inM c then some .nm else none
  | .tk0, c => if c = 92 then some .tkE else if reB inK c then some .tk else none
  | .tk, c => if c = 92 then some .tkE else if reB inK c then some .tk else if c = 61 then some .tv0 else none
  | .tkE, c => if mB inK c then some .tk else none
  | .tv0, c => if c = 92 then some .tvE else if 127 < c then (uFirst c).map .tvU else if reB inK c then some .tv else none
  | .tv, c => if c = 92 then some .tvE else if 127 < c then (uFirst c).map .tvU else if reB inK c then some .tv else if c = 44 then some .tk0 else if c = 32 then some .fk0 else none
  | .tvE, c => if mB inK c then some .tv else none
  | .tvU u, c => (uNext u c).map fun o => match o with
    | none => .tv
    | some u' => .tvU u'
  | .fk0, c => if c = 92 then some .fkE else if reB inK c then some .fk else none
  | .fk, c => if c = 92 then some .fkE else if reB inK c then some .fk else if c = 61 then some .fv else none
  | .fkE, c => if mB inK c then some .fk else none
  | .fv, c => if c = 116 then some .t1 else if c = 102 then some .f1 else if c = 34 then some .qq else if c = 45 then some .neg else if digB c then some .iP else none
  | .t1, c => if c = 114 then some .t2 else none
  | .t2, c => if c = 117 then some .t3 else none
  | .t3, c => if c = 101 then some .ve else none
  | .f1, c => if c = 97 then some .f2 else none
  | .f2, c => if c = 108 then some .f3 else none
  | .f3, c => if c = 115 then some .f4 else none
  | .f4, c => if c = 101 then some .ve else none
  | .ve, c => afterV c
  | .neg, c => if digB c then some .iM else none
  | .iM, c => if digB c then some .iM else if c = 105 then some .ve else if c = 46 then some .dot else afterV c
  | .iP, c => if digB c then some .iP else if c = 105 then some .ve else if c = 117 then some .ve else if c = 46 then some .dot else afterV c
  | .dot, c => if digB c then some .fr else none
  | .fr, c => if digB c then some .fr else afterV c
  | .qq, c => if c = 34 then some .ve else if c = 10 then none else if c = 92 then some .qE else if c < 128 then some .qq else (uFirst c).map .qU
  | .qE, c => if mB inT c then some .qq else none
  | .qU u, c => (uNext u c).map fun o => match o with
    | none => .qq
    | some u' => .qU u'
  | .tm0, c => if c = 45 then some .tmN else if digB c then some .tm else none
  | .tmN, c => if digB c then some .tm else none
  | .tm, c => if digB c then some .tm else if c = 10 then some .line else none
def acL : LQ → Bool
  | .line => true
  | _ => false
section
variable {l : List UInt8}
abbrev V (l : List UInt8) (q : LQ) (a : Nat) : Int := vd stL acL l q a
theorem u_tv : UStep stL acL .tv .tvU := ⟨fun _ _ => rfl, fun _ => rfl⟩
theorem u_qq : UStep stL acL .qq .qU := ⟨fun _ _ => rfl, fun _ => rfl⟩
theorem reB_one {m : List UInt8} {c : Int} (h1 : 32 < c) (h2 : c < 127) (h3 : (m.any fun d => c == d.toNat) = false) : reB m c = true := by
  unfold reB mB; simp only [Bool.and_eq_true, decide_eq_true_eq, Bool.not_eq_true']; exact ⟨⟨h1, h2⟩, h3⟩
theorem s_nm : SStep stL acL inM false .nm .nmE (fun _ => .line) := ⟨by simp, rfl, rfl, fun _ => rfl, fun c h1 h2 h3 h4 => by
  show (if c = 92 then _ else _) = _
  rw [if_neg h3, if_pos (reB_one h1 h2 h4)], by simp⟩
theorem s_tk : SStep stL acL inK false .tk .tkE (fun _ => .line) := ⟨by simp, rfl, rfl, fun _ => rfl, fun c h1 h2 h3 h4 => by
  show (if c = 92 then _ else _) = _
  rw [if_neg h3, if_pos (reB_one h1 h2 h4)], by simp⟩
theorem s_fk : SStep stL acL inK false .fk .fkE (fun _ => .line) := ⟨by simp, rfl, rfl, fun _ => rfl, fun c h1 h2 h3 h4 => by
  show (if c = 92 then _ else _) = _
  rw [if_neg h3, if_pos (reB_one h1 h2 h4)], by simp⟩
theorem s_tv : SStep stL acL inK true .tv .tvE .tvU := ⟨fun _ => u_tv, rfl, rfl, fun _ => rfl, fun c h1 h2 h3 h4 => by
  show (if c = 92 then _ else _) = _
  rw [if_neg h3, if_neg (by omega), if_pos (reB_one h1 h2 h4)], fun _ c h => by
  show (if c = 92 then _ else _) = _
  rw [if_neg (by omega), if_pos h]⟩
theorem start_n {m : List UInt8} {T0 T TE : LQ} {c : Int} (h0 : stL T0 c = if c = 92 then some TE else if reB m c then some T else none) (h1 : c = 92 ∨ reB m c = true → stL T c = if c = 92 then some TE else some T) :
    stL T0 c = if c = 92 ∨ (false = true ∧ 127 < c) ∨ (32 < c ∧ c < 127 ∧ (m.any fun d => c == d.toNat) = false) then stL T c else none := by
  have e : (32 < c ∧ c < 127 ∧ (m.any fun d => c == d.toNat) = false) ↔ reB m c = true := by
    unfold reB mB; simp only [Bool.and_eq_true, decide_eq_true_eq, Bool.not_eq_true']; exact ⟨fun h => ⟨⟨h.1, h.2.1⟩, h.2.2⟩, fun h => ⟨h.1.1, h.1.2, h.2⟩⟩
  rw [h0]
  by_cases k : c = 92
  · rw [if_pos k, if_pos (.inl k), h1 (.inl k), if_pos k]
  · rw [if_neg k]
    by_cases k2 : reB m c = true
    · rw [if_pos k2, if_pos (.inr (.inr (e.2 k2))), h1 (.inr k2), if_neg k]
    · rw [if_neg k2, if_neg]
      rintro (h | h | h)
      · exact k h
      · exact absurd h.1 (by decide)
      · exact k2 (e.1 h)
theorem v_nm {a : Nat} (ha : a < l.length) : V l .line a = if (sgn l inM false a (isB l a false 35)).2.2 = true then ((sgn l inM false a (isB l a false 35)).2.1 : Int) else V l .nm (sgn l inM false a (isB l a false 35)).2.1 := by
  cases h : isB l a false 35
  · have hne : bt l a ≠ 35 := fun e => by
      have : isB l a false 35 = true := isB_iff.2 ⟨ha, e⟩
      rw [h] at this; cases this
    refine vd_sgn s_nm (by omega) (.inr ha) (fun _ => start_n (T := .nm) (TE := .nmE) ?_ ?_)
    · show (if bt l a = 35 then _ else _) = _
      rw [if_neg hne]
    · rintro k
      show (if bt l a = 92 then _ else if reB inM (bt l a) = true then _ else _) = _
      rcases k with k | k
      · rw [if_pos k, if_pos k]
      · rw [if_pos k]
  · have := isB_iff.1 h
    have e : sgn l inM false a true = ([], a, true) := rfl
    rw [e]
    exact vd_no ha (by rw [this.2]; rfl)
theorem v_tk {a : Nat} (ha : a ≤ l.length) : V l .tk0 a = if (sgn l inK false a false).2.2 = true then ((sgn l inK false a false).2.1 : Int) else V l .tk (sgn l inK false a false).2.1 :=
  vd_sgn s_tk ha (.inl rfl) (fun _ => start_n (T := .tk) (TE := .tkE) rfl (fun k => by
    show (if bt l a = 92 then _ else if reB inK (bt l a) = true then _ else _) = _
    rcases k with k | k
    · rw [if_pos k, if_pos k]
    · rw [if_pos k]))
theorem v_fk {a : Nat} (ha : a ≤ l.length) : V l .fk0 a = if (sgn l inK false a false).2.2 = true then ((sgn l inK false a false).2.1 : Int) else V l .fk (sgn l inK false a false).2.1 :=
  vd_sgn s_fk ha (.inl rfl) (fun _ => start_n (T := .fk) (TE := .fkE) rfl (fun k => by
    show (if bt l a = 92 then _ else if reB inK (bt l a) = true then _ else _) = _
    rcases k with k | k
    · rw [if_pos k, if_pos k]
    · rw [if_pos k]))
theorem reB_iff {m : List UInt8} {c : Int} : reB m c = true ↔ (32 < c ∧ c < 127 ∧ (m.any fun d => c == d.toNat) = false) := by
  unfold reB mB; simp only [Bool.and_eq_true, decide_eq_true_eq, Bool.not_eq_true']; exact ⟨fun h => ⟨h.1.1, h.1.2, h.2⟩, fun h => ⟨⟨h.1, h.2.1⟩, h.2.2⟩⟩
theorem v_tv {a : Nat} (ha : a ≤ l.length) : V l .tv0 a = if (sgn l inK true a false).2.2 = true then ((sgn l inK true a false).2.1 : Int) else V l .tv (sgn l inK true a false).2.1 := by
  refine vd_sgn s_tv ha (.inl rfl) (fun _ => ?_)
  show (if bt l a = 92 then _ else if 127 < bt l a then _ else if reB inK (bt l a) = true then _ else _) = if _ then (if bt l a = 92 then _ else if 127 < bt l a then _ else if reB inK (bt l a) = true then _ else _) else _
  by_cases k : bt l a = 92
  · rw [if_pos k, if_pos (.inl k), if_pos k]
  by_cases k2 : 127 < bt l a
  · rw [if_neg k, if_pos k2, if_pos (.inr (.inl ⟨rfl, k2⟩)), if_neg k, if_pos k2]
  by_cases k3 : reB inK (bt l a) = true
  · rw [if_neg k, if_neg k2, if_pos k3, if_pos (.inr (.inr (reB_iff.1 k3))), if_neg k, if_neg k2, if_pos k3]
  · rw [if_neg k, if_neg k2, if_neg k3, if_neg]
    rintro (h | h | h)
    · exact k h
    · exact k2 h.2
    · exact k3 (reB_iff.2 h)
/-- Behind a word of signs. -/
theorem stop_n {m : List UInt8} {a : Nat} (hl : a ≤ l.length) (h : (sgn l m false a false).2.2 = false) (h2 : (sgn l m false a false).2.1 < l.length) : bt l (sgn l m false a false).2.1 ≠ 92 ∧ reB m (bt l (sgn l m false a false).2.1) = false := by
  have := sgn_stop hl h h2
  refine ⟨fun e => this (.inl e), ?_⟩
  cases k : reB m (bt l (sgn l m false a false).2.1)
  · rfl
  · exact absurd (.inr (.inr (reB_iff.1 k))) this
theorem stop_w {m : List UInt8} {a : Nat} (hl : a ≤ l.length) (h : (sgn l m true a false).2.2 = false) (h2 : (sgn l m true a false).2.1 < l.length) : bt l (sgn l m true a false).2.1 ≠ 92 ∧ ¬ 127 < bt l (sgn l m true a false).2.1 ∧ reB m (bt l (sgn l m true a false).2.1) = false := by
  have := sgn_stop hl h h2
  refine ⟨fun e => this (.inl e), fun e => this (.inr (.inl ⟨rfl, e⟩)), ?_⟩
  cases k : reB m (bt l (sgn l m true a false).2.1)
  · rfl
  · exact absurd (.inr (.inr (reB_iff.1 k))) this
theorem isB_f {a : Nat} {c : Int} (h : isB l a false c = false) (ha : a < l.length) : bt l a ≠ c := fun e => by
  have := isB_iff.2 ⟨ha, e⟩
  rw [h] at this; cases this
/-- A verdict behind which stand two bytes that may be. -/
def Forks (l : List UInt8) (a : Nat) (x : Int) : Prop := x = if isB l a false 44 = true then V l .tk0 (a + 1) else if isB l a false 32 = true then V l .fk0 (a + 1) else (a : Int)
theorem forks_of {q : LQ} {a : Nat} (hac : acL q = false) (h : a < l.length → stL q (bt l a) = if bt l a = 44 then some .tk0 else if bt l a = 32 then some .fk0 else none) : Forks l a (V l q a) := by
  unfold Forks
  by_cases ha : a < l.length
  · have h1 := h ha
    cases k1 : isB l a false 44
    · rw [if_neg (isB_f k1 ha)] at h1
      rw [if_neg (by simp)]
      cases k2 : isB l a false 32
      · rw [if_neg (isB_f k2 ha)] at h1
        rw [if_neg (by simp)]
        exact vd_no ha h1
      · rw [if_pos (isB_iff.1 k2).2] at h1
        rw [if_pos rfl]
        exact vd_yes ha h1
    · rw [if_pos (isB_iff.1 k1).2] at h1
      rw [if_pos rfl]
      exact vd_yes ha h1
  · have z : ∀ c, isB l a false c = false := fun c => by simp [isB, pkB, ha]
    rw [z, z]
    exact vd_end (by omega) hac
theorem forks_nm {a : Nat} (ha : a < l.length) (h : (sgn l inM false a (isB l a false 35)).2.2 = false) : Forks l (sgn l inM false a (isB l a false 35)).2.1 (V l .nm (sgn l inM false a (isB l a false 35)).2.1) := by
  cases k : isB l a false 35
  · rw [k] at h
    refine forks_of rfl (fun h2 => ?_)
    obtain ⟨h3, h4⟩ := stop_n (by omega) h h2
    show (if _ = 92 then _ else if reB inM _ = true then _ else _) = _
    rw [if_neg h3, if_neg (by rw [h4]; simp)]
  · rw [k] at h; cases h
theorem forks_tv {a : Nat} (ha : a ≤ l.length) (h : (sgn l inK true a false).2.2 = false) : Forks l (sgn l inK true a false).2.1 (V l .tv (sgn l inK true a false).2.1) := by
  refine forks_of rfl (fun h2 => ?_)
  obtain ⟨h3, h4, h5⟩ := stop_w ha h h2
  show (if _ = 92 then _ else if 127 < _ then _ else if reB inK _ = true then _ else _) = _
  rw [if_neg h3, if_neg h4, if_neg (by rw [h5]; simp)]
theorem word1 (l : List UInt8) (c : UInt8) (a : Nat) : wordS l [c] a false = if isB l a false c.toNat = true then (a + 1, false) else (a, true) := by
  simp [wordS]
theorem word_no (l w : List UInt8) (a : Nat) : wordS l w a true = (a, true) := by cases w <;> simp [wordS]
theorem eq_tk {a : Nat} (ha : a ≤ l.length) (h : (sgn l inK false a false).2.2 = false) : V l .tk (sgn l inK false a false).2.1 = if (wordS l [61] (sgn l inK false a false).2.1 false).2 = true then ((wordS l [61] (sgn l inK false a false).2.1 false).1 : Int) else V l .tv0 (wordS l [61] (sgn l inK false a false).2.1 false).1 := by
  rw [word1]
  have hs := stop_n ha h
  generalize (sgn l inK false a false).2.1 = b at hs ⊢
  show V l .tk b = if (if isB l b false 61 = true then (b + 1, false) else (b, true)).2 = true then ((if isB l b false 61 = true then (b + 1, false) else (b, true)).1 : Int) else V l .tv0 (if isB l b false 61 = true then (b + 1, false) else (b, true)).1
  by_cases hb : b < l.length
  · obtain ⟨h3, h4⟩ := hs hb
    cases k : isB l b false 61
    · simp only [Bool.false_eq_true, if_false, if_true]
      refine vd_no hb ?_
      show (if _ = 92 then _ else if reB inK _ = true then _ else _) = _
      rw [if_neg h3, if_neg (by rw [h4]; simp), if_neg (isB_f k hb)]
    · simp only [if_true, Bool.false_eq_true, if_false]
      refine vd_yes hb ?_
      show (if _ = 92 then _ else if reB inK _ = true then _ else _) = _
      rw [if_neg h3, if_neg (by rw [h4]; simp), if_pos (isB_iff.1 k).2]
  · have z : isB l b false 61 = false := by simp [isB, pkB, hb]
    rw [z]
    simp only [Bool.false_eq_true, if_false, if_true]
    exact vd_end (by omega) rfl
theorem eq_fk {a : Nat} (ha : a ≤ l.length) (h : (sgn l inK false a false).2.2 = false) : V l .fk (sgn l inK false a false).2.1 = if (wordS l [61] (sgn l inK false a false).2.1 false).2 = true then ((wordS l [61] (sgn l inK false a false).2.1 false).1 : Int) else V l .fv (wordS l [61] (sgn l inK false a false).2.1 false).1 := by
  rw [word1]
  have hs := stop_n ha h
  generalize (sgn l inK false a false).2.1 = b at hs ⊢
  show V l .fk b = if (if isB l b false 61 = true then (b + 1, false) else (b, true)).2 = true then ((if isB l b false 61 = true then (b + 1, false) else (b, true)).1 : Int) else V l .fv (if isB l b false 61 = true then (b + 1, false) else (b, true)).1
  by_cases hb : b < l.length
  · obtain ⟨h3, h4⟩ := hs hb
    cases k : isB l b false 61
    · simp only [Bool.false_eq_true, if_false, if_true]
      refine vd_no hb ?_
      show (if _ = 92 then _ else if reB inK _ = true then _ else _) = _
      rw [if_neg h3, if_neg (by rw [h4]; simp), if_neg (isB_f k hb)]
    · simp only [if_true, Bool.false_eq_true, if_false]
      refine vd_yes hb ?_
      show (if _ = 92 then _ else if reB inK _ = true then _ else _) = _
      rw [if_neg h3, if_neg (by rw [h4]; simp), if_pos (isB_iff.1 k).2]
  · have z : isB l b false 61 = false := by simp [isB, pkB, hb]
    rw [z]
    simp only [Bool.false_eq_true, if_false, if_true]
    exact vd_end (by omega) rfl
theorem sgn_no (l m : List UInt8) (w : Bool) (a : Nat) : sgn l m w a true = ([], a, true) := rfl
theorem tagS_le {a : Nat} (no : Bool) (ha : a ≤ l.length) : a ≤ (tagS l a no).2.1 ∧ (tagS l a no).2.1 ≤ l.length := by
  have h1 := sgn_le l inK false a no ha
  have h2 := wordS_le l [61] (sgn l inK false a no).2.1 (sgn l inK false a no).2.2 h1.2.1
  have h3 := sgn_le l inK true (wordS l [61] (sgn l inK false a no).2.1 (sgn l inK false a no).2.2).1 (wordS l [61] (sgn l inK false a no).2.1 (sgn l inK false a no).2.2).2 h2.2
  show a ≤ (sgn l inK true (wordS l [61] (sgn l inK false a no).2.1 (sgn l inK false a no).2.2).1 (wordS l [61] (sgn l inK false a no).2.1 (sgn l inK false a no).2.2).2).2.1 ∧ (sgn l inK true (wordS l [61] (sgn l inK false a no).2.1 (sgn l inK false a no).2.2).1 (wordS l [61] (sgn l inK false a no).2.1 (sgn l inK false a no).2.2).2).2.1 ≤ l.length
  omega
theorem v_tag {a : Nat} (ha : a ≤ l.length) : if (tagS l a false).2.2 = true then V l .tk0 a = ((tagS l a false).2.1 : Int) else Forks l (tagS l a false).2.1 (V l .tk0 a) := by
  have h1 := sgn_le l inK false a false ha
  have hv := v_tk ha
  have he := eq_tk ha
  show if (sgn l inK true (wordS l [61] (sgn l inK false a false).2.1 (sgn l inK false a false).2.2).1 (wordS l [61] (sgn l inK false a false).2.1 (sgn l inK false a false).2.2).2).2.2 = true then V l .tk0 a = ((sgn l inK true (wordS l [61] (sgn l inK false a false).2.1 (sgn l inK false a false).2.2).1 (wordS l [61] (sgn l inK false a false).2.1 (sgn l inK false a false).2.2).2).2.1 : Int) else Forks l (sgn l inK true (wordS l [61] (sgn l inK false a false).2.1 (sgn l inK false a false).2.2).1 (wordS l [61] (sgn l inK false a false).2.1 (sgn l inK false a false).2.2).2).2.1 (V l .tk0 a)
  cases hn : (sgn l inK false a false).2.2
  · rw [hn] at hv
    rw [if_neg (by simp)] at hv
    rw [he hn] at hv
    have h2 := wordS_le l [61] (sgn l inK false a false).2.1 false h1.2.1
    cases hw : (wordS l [61] (sgn l inK false a false).2.1 false).2
    · rw [hw, if_neg (by simp)] at hv
      have h3 := v_tv h2.2
      cases hk : (sgn l inK true (wordS l [61] (sgn l inK false a false).2.1 false).1 false).2.2
      · rw [if_neg (by simp), hv, h3, hk, if_neg (by simp)]
        exact forks_tv h2.2 hk
      · rw [if_pos rfl, hv, h3, hk, if_pos rfl]
    · rw [hw, if_pos rfl] at hv
      rw [sgn_no, if_pos rfl]; exact hv
  · rw [hn, if_pos rfl] at hv
    rw [word_no, sgn_no, if_pos rfl]; exact hv
theorem tagsS_no (l : List UInt8) : ∀ f a acc, (tagsS l f a true acc).2 = (a, true)
  | 0, a, acc => rfl
  | f + 1, a, acc => by simp [tagsS, isB_no]
theorem tagsS_le : ∀ f a no acc, a ≤ l.length → a ≤ (tagsS l f a no acc).2.1 ∧ (tagsS l f a no acc).2.1 ≤ l.length
  | 0, a, no, acc, h => ⟨Nat.le_refl _, h⟩
  | f + 1, a, no, acc, h => by
    unfold tagsS
    by_cases k : isB l a no 44 = true
    · rw [if_pos k]
      have := (isB_lt k).1
      have h1 := tagS_le (l := l) (a := a + 1) false (by omega)
      have h2 := tagsS_le f (tagS l (a + 1) false).2.1 (tagS l (a + 1) false).2.2 (acc ++ [(tagS l (a + 1) false).1]) h1.2
      omega
    · rw [if_neg k]; exact ⟨Nat.le_refl _, h⟩
theorem v_tags : ∀ f a acc x, l.length < f + a → a ≤ l.length → Forks l a x →
    x = if (wordS l [32] (tagsS l f a false acc).2.1 (tagsS l f a false acc).2.2).2 = true then ((wordS l [32] (tagsS l f a false acc).2.1 (tagsS l f a false acc).2.2).1 : Int) else V l .fk0 (wordS l [32] (tagsS l f a false acc).2.1 (tagsS l f a false acc).2.2).1
  | 0, a, acc, x, hf, hl, _ => by omega
  | f + 1, a, acc, x, hf, hl, hx => by
    unfold Forks at hx
    unfold tagsS
    by_cases k : isB l a false 44 = true
    · rw [if_pos k] at hx ⊢
      have hlt := (isB_lt k).1
      have hle := tagS_le (l := l) (a := a + 1) false (by omega)
      have ht := v_tag (l := l) (a := a + 1) (by omega)
      rw [← hx] at ht
      cases hn : (tagS l (a + 1) false).2.2
      · rw [hn, if_neg (by simp)] at ht
        exact v_tags f _ _ x (by omega) hle.2 ht
      · rw [hn, if_pos rfl] at ht
        rw [tagsS_no, word_no, if_pos rfl]
        exact ht
    · rw [if_neg k] at hx ⊢
      rw [word1]
      simp only
      by_cases k2 : isB l a false 32 = true
      · rw [if_pos k2] at hx
        have k3 : isB l a false ((32 : UInt8).toNat : Int) = true := k2
        rw [if_pos k3, if_neg (by simp)]
        exact hx
      · rw [if_neg k2] at hx
        have k3 : ¬ isB l a false ((32 : UInt8).toNat : Int) = true := k2
        rw [if_neg k3, if_pos rfl]
        exact hx
/-- Behind a field's value. -/
def After (l : List UInt8) (a : Nat) (x : Int) : Prop := x = if isB l a false 44 = true then V l .fk0 (a + 1) else if isB l a false 32 = true then V l .tm0 (a + 1) else if isB l a false 10 = true then V l .line (a + 1) else (a : Int)
theorem after_of {q : LQ} {a : Nat} (hac : acL q = false) (h : a < l.length → stL q (bt l a) = afterV (bt l a)) : After l a (V l q a) := by
  unfold After
  by_cases ha : a < l.length
  · have h1 := h ha
    unfold afterV at h1
    cases k1 : isB l a false 44
    · rw [if_neg (isB_f k1 ha)] at h1
      rw [if_neg (by simp)]
      cases k2 : isB l a false 32
      · rw [if_neg (isB_f k2 ha)] at h1
        rw [if_neg (by simp)]
        cases k3 : isB l a false 10
        · rw [if_neg (isB_f k3 ha)] at h1
          rw [if_neg (by simp)]
          exact vd_no ha h1
        · rw [if_pos (isB_iff.1 k3).2] at h1
          rw [if_pos rfl]
          exact vd_yes ha h1
      · rw [if_pos (isB_iff.1 k2).2] at h1
        rw [if_pos rfl]
        exact vd_yes ha h1
    · rw [if_pos (isB_iff.1 k1).2] at h1
      rw [if_pos rfl]
      exact vd_yes ha h1
  · have z : ∀ c, isB l a false c = false := fun c => by simp [isB, pkB, ha]
    rw [z, z, z]
    exact vd_end (by omega) hac
theorem isB_end {a : Nat} {c : Int} (h : ¬ a < l.length) : isB l a false c = false := by simp [isB, pkB, h]
theorem word_head {c : UInt8} {cs : List UInt8} {a : Nat} (h : isB l a false c.toNat = true) : wordS l (c :: cs) a false = wordS l cs (a + 1) false := by
  conv => lhs; unfold wordS
  simp only [Bool.false_eq_true, if_false]
  rw [if_pos h]
theorem v_true (a : Nat) : V l .t1 a = if (wordS l [114, 117, 101] a false).2 = true then ((wordS l [114, 117, 101] a false).1 : Int) else V l .ve (wordS l [114, 117, 101] a false).1 := by
  refine vd_word (st := stL) (ac := acL) [114, 117, 101] [LQ.t2, LQ.t3] LQ.t1 LQ.ve a rfl (fun i hi => ?_)
  match i, hi with
  | 0, _ => exact ⟨rfl, rfl, fun d hd => if_neg hd⟩
  | 1, _ => exact ⟨rfl, rfl, fun d hd => if_neg hd⟩
  | 2, _ => exact ⟨rfl, rfl, fun d hd => if_neg hd⟩
  | n + 3, h => exact absurd h (by simp)
theorem v_false (a : Nat) : V l .f1 a = if (wordS l [97, 108, 115, 101] a false).2 = true then ((wordS l [97, 108, 115, 101] a false).1 : Int) else V l .ve (wordS l [97, 108, 115, 101] a false).1 := by
  refine vd_word (st := stL) (ac := acL) [97, 108, 115, 101] [LQ.f2, LQ.f3, LQ.f4] LQ.f1 LQ.ve a rfl (fun i hi => ?_)
  match i, hi with
  | 0, _ => exact ⟨rfl, rfl, fun d hd => if_neg hd⟩
  | 1, _ => exact ⟨rfl, rfl, fun d hd => if_neg hd⟩
  | 2, _ => exact ⟨rfl, rfl, fun d hd => if_neg hd⟩
  | 3, _ => exact ⟨rfl, rfl, fun d hd => if_neg hd⟩
  | n + 4, h => exact absurd h (by simp)
theorem v_quote {a : Nat} (ha : a ≤ l.length) : if (wordS l [34] (ink l 34 inT 110 a false).2.1 (ink l 34 inT 110 a false).2.2).2 = true then V l .qq a = ((wordS l [34] (ink l 34 inT 110 a false).2.1 (ink l 34 inT 110 a false).2.2).1 : Int) else After l (wordS l [34] (ink l 34 inT 110 a false).2.1 (ink l 34 inT 110 a false).2.2).1 (V l .qq a) := by
  have hi := vd_ink (l := l) (e := 34) (m := inT) (n := 110) u_qq rfl (show acL .qE = false from rfl) (fun _ => rfl) (fun _ => rfl) (fun _ => rfl) (fun c h0 h1 h2 h3 h4 => by
    show (if c = 34 then _ else if c = 10 then _ else if c = 92 then _ else if c < 128 then _ else _) = _
    rw [if_neg h2, if_neg h3, if_neg h4, if_pos h1]) (fun c h0 h1 => by
    show (if c = 34 then _ else if c = 10 then _ else if c = 92 then _ else if c < 128 then _ else _) = _
    rw [if_neg h1, if_neg (by omega), if_neg (by omega), if_neg (by omega)]) (l.length + 1) a [] (by omega) ha
  have hst := inkS_stop (l := l) (e := 34) (m := inT) (n := 110) (l.length + 1) a [] ha
  have e : ink l 34 inT 110 a false = inkS l 34 inT 110 (l.length + 1) a [] := rfl
  rw [e]
  cases hn : (inkS l 34 inT 110 (l.length + 1) a []).2.2
  · obtain ⟨h1, h2⟩ := hst hn
    have hb : isB l (inkS l 34 inT 110 (l.length + 1) a []).2.1 false ((34 : UInt8).toNat : Int) = true := isB_iff.2 ⟨h1, h2⟩
    rw [hn, if_neg (by simp)] at hi
    rw [word1, if_pos hb, if_neg (by simp)]
    show After l _ (vd stL acL l .qq a)
    rw [hi, vd_yes h1 (by rw [h2]; rfl)]
    exact after_of rfl (fun _ => rfl)
  · rw [hn, if_pos rfl] at hi
    rw [word_no, if_pos rfl]
    exact hi
theorem digB_iff {c : Int} : digB c = true ↔ 48 ≤ c ∧ c ≤ 57 := by simp [digB]
/-- A number's kinds, behind its digits. -/
theorem v_kind {a b : Nat} {q : LQ} {mn : Bool} (hq : (q = .iM ∧ mn = true) ∨ (q = .iP ∧ mn = false)) (hd : b < l.length → digB (bt l b) = false) (X : Nat × List UInt8 × Nat) (Y : Nat × List UInt8 × Nat) (Z W : Nat × List UInt8 × Nat) :
    let r : (Nat × List UInt8 × Nat) × Nat × Bool := if isB l b false 105 then (X, b + 1, false) else if !mn && isB l b false 117 then (Y, b + 1, false) else if isB l b false 46 then (Z, someS l digB (b + 1) false) else (W, b, false)
    if r.2.2 = true then V l q b = (r.2.1 : Int) else After l r.2.1 (V l q b) := by
  have hac : acL q = false := by rcases hq with ⟨rfl, _⟩ | ⟨rfl, _⟩ <;> rfl
  by_cases hb : b < l.length
  · have hst : stL q (bt l b) = if bt l b = 105 then some .ve else if mn = false ∧ bt l b = 117 then some .ve else if bt l b = 46 then some .dot else afterV (bt l b) := by
      rcases hq with ⟨rfl, rfl⟩ | ⟨rfl, rfl⟩
      · show (if digB (bt l b) = true then _ else if _ = 105 then _ else if _ = 46 then _ else _) = _
        rw [if_neg (by rw [hd hb]; simp)]
        simp
      · show (if digB (bt l b) = true then _ else if _ = 105 then _ else if _ = 117 then _ else if _ = 46 then _ else _) = _
        rw [if_neg (by rw [hd hb]; simp)]
        simp
    cases k1 : isB l b false 105
    · rw [if_neg (isB_f k1 hb)] at hst
      simp only [Bool.false_eq_true, if_false]
      by_cases k2 : (!mn && isB l b false 117) = true
      · rw [k2]
        simp only [if_true, Bool.false_eq_true, if_false]
        simp only [Bool.and_eq_true, Bool.not_eq_true'] at k2
        rw [if_pos ⟨k2.1, (isB_iff.1 k2.2).2⟩] at hst
        rw [show V l q b = _ from vd_yes hb hst]
        exact after_of rfl (fun _ => rfl)
      · have hneg : ¬ (mn = false ∧ bt l b = 117) := fun h => k2 (by simp only [Bool.and_eq_true, Bool.not_eq_true']; exact ⟨h.1, isB_iff.2 ⟨hb, h.2⟩⟩)
        rw [if_neg hneg] at hst
        rw [if_neg k2]
        cases k3 : isB l b false 46
        · simp only [Bool.false_eq_true, if_false]
          rw [if_neg (isB_f k3 hb)] at hst
          exact after_of hac (fun _ => hst)
        · simp only [if_true]
          rw [if_pos (isB_iff.1 k3).2] at hst
          have hv : V l q b = _ := vd_yes hb hst
          have hs := vd_some (l := l) (st := stL) (ac := acL) (T0 := .dot) (T := .fr) (p := digB) (a := b + 1) rfl (fun _ h => by show (if _ then _ else _) = _; rw [if_pos h]) (fun _ h => by show (if _ then _ else _) = _; rw [if_neg (by rw [h]; simp)]) (fun c h => by show (if _ then _ else _) = _; rw [if_pos h])
          cases hn : (someS l digB (b + 1) false).2
          · rw [if_neg (by simp), hv]
            rw [hn, if_neg (by simp)] at hs
            rw [hs]
            refine after_of rfl (fun h => ?_)
            show (if digB _ = true then _ else _) = _
            rw [if_neg (by rw [someS_stop h]; simp)]
          · rw [if_pos rfl, hv]
            rw [hn, if_pos rfl] at hs
            exact hs
    · simp only [if_true, Bool.false_eq_true, if_false]
      rw [if_pos (isB_iff.1 k1).2] at hst
      rw [show V l q b = _ from vd_yes hb hst]
      exact after_of rfl (fun _ => rfl)
  · have z : ∀ c, isB l b false c = false := fun c => isB_end hb
    rw [z, z, z]
    simp only [Bool.and_false, Bool.false_eq_true, if_false]
    exact after_of hac (fun h => absurd h hb)
theorem v_number {a : Nat} (ha : a ≤ l.length) (h1 : isB l a false 116 = false) (h2 : isB l a false 102 = false) (h3 : isB l a false 34 = false) :
    if (numberS l a false).2.2 = true then V l .fv a = ((numberS l a false).2.1 : Int) else After l (numberS l a false).2.1 (V l .fv a) := by
  have e : numS l a false = someS l digB (takeA l a false 45) false := rfl
  unfold numberS
  simp only
  rw [e]
  cases k : isB l a false 45
  · have e2 : takeA l a false 45 = a := by unfold takeA; rw [k]; rfl
    rw [e2]
    have hs := vd_some (l := l) (st := stL) (ac := acL) (T0 := .fv) (T := .iP) (p := digB) (a := a) rfl (fun hl h => by
      have := digB_iff.1 h
      show (if bt l a = 116 then _ else if bt l a = 102 then _ else if bt l a = 34 then _ else if bt l a = 45 then _ else if digB (bt l a) = true then _ else _) = _
      rw [if_neg (by omega), if_neg (by omega), if_neg (by omega), if_neg (by omega), if_pos h]) (fun hl h => by
      show (if bt l a = 116 then _ else if bt l a = 102 then _ else if bt l a = 34 then _ else if bt l a = 45 then _ else if digB (bt l a) = true then _ else _) = _
      rw [if_neg (isB_f h1 hl), if_neg (isB_f h2 hl), if_neg (isB_f h3 hl), if_neg (isB_f k hl), if_neg (by rw [h]; simp)]) (fun c h => by show (if _ then _ else _) = _; rw [if_pos h])
    cases hn : (someS l digB a false).2
    · rw [hn, if_neg (by simp)] at hs
      have e3 : someS l digB a false = ((someS l digB a false).1, false) := Prod.ext rfl hn
      rw [e3]
      simp only
      show if _ then vd stL acL l .fv a = _ else After l _ (vd stL acL l .fv a)
      rw [hs]
      exact v_kind (a := a) (.inr ⟨rfl, rfl⟩) (fun h => someS_stop h) _ _ _ _
    · rw [hn, if_pos rfl] at hs
      have z : ∀ b c, isB l b true c = false := fun _ _ => rfl
      rw [z, z, z]
      simp only [Bool.and_false, Bool.false_eq_true, if_false]
      rw [hn, if_pos rfl]
      exact hs
  · have hk := isB_iff.1 k
    have e2 : takeA l a false 45 = a + 1 := by unfold takeA; rw [k]; rfl
    rw [e2]
    have hv : V l .fv a = V l .neg (a + 1) := vd_yes hk.1 (by rw [hk.2]; rfl)
    have hs := vd_some (l := l) (st := stL) (ac := acL) (T0 := .neg) (T := .iM) (p := digB) (a := a + 1) rfl (fun hl h => by show (if _ then _ else _) = _; rw [if_pos h]) (fun hl h => by show (if _ then _ else _) = _; rw [if_neg (by rw [h]; simp)]) (fun c h => by show (if _ then _ else _) = _; rw [if_pos h])
    cases hn : (someS l digB (a + 1) false).2
    · rw [hn, if_neg (by simp)] at hs
      have e3 : someS l digB (a + 1) false = ((someS l digB (a + 1) false).1, false) := Prod.ext rfl hn
      rw [e3]
      simp only
      rw [hv]
      show if _ then vd stL acL l .neg (a + 1) = _ else After l _ (vd stL acL l .neg (a + 1))
      rw [hs]
      exact v_kind (a := a) (.inl ⟨rfl, rfl⟩) (fun h => someS_stop h) _ _ _ _
    · rw [hn, if_pos rfl] at hs
      have z : ∀ b c, isB l b true c = false := fun _ _ => rfl
      rw [z, z, z]
      simp only [Bool.and_false, Bool.false_eq_true, if_false]
      rw [hn, if_pos rfl, hv]
      exact hs
theorem v_told {a : Nat} (ha : a ≤ l.length) : if (toldS l a false).2.2 = true then V l .fv a = ((toldS l a false).2.1 : Int) else After l (toldS l a false).2.1 (V l .fv a) := by
  unfold toldS
  cases h1 : isB l a false 116
  · cases h2 : isB l a false 102
    · cases h3 : isB l a false 34
      · simp only [Bool.false_eq_true, if_false]
        exact v_number ha h1 h2 h3
      · simp only [Bool.false_eq_true, if_false, if_true]
        have hk := isB_iff.1 h3
        have hv : V l .fv a = V l .qq (a + 1) := vd_yes hk.1 (by rw [hk.2]; rfl)
        rw [hv]
        exact v_quote (by omega)
    · simp only [Bool.false_eq_true, if_false, if_true]
      have hk := isB_iff.1 h2
      have hv : V l .fv a = V l .f1 (a + 1) := vd_yes hk.1 (by rw [hk.2]; rfl)
      rw [hv, show wordS l wFalse a false = wordS l [97, 108, 115, 101] (a + 1) false from word_head h2, v_false]
      cases hw : (wordS l [97, 108, 115, 101] (a + 1) false).2
      · rw [if_neg (by simp), if_neg (by simp)]
        exact after_of rfl (fun _ => rfl)
      · rw [if_pos rfl, if_pos rfl]
  · simp only [if_true]
    have hk := isB_iff.1 h1
    have hv : V l .fv a = V l .t1 (a + 1) := vd_yes hk.1 (by rw [hk.2]; rfl)
    rw [hv, show wordS l wTrue a false = wordS l [114, 117, 101] (a + 1) false from word_head h1, v_true]
    cases hw : (wordS l [114, 117, 101] (a + 1) false).2
    · rw [if_neg (by simp), if_neg (by simp)]
      exact after_of rfl (fun _ => rfl)
    · rw [if_pos rfl, if_pos rfl]
theorem isB_le {a : Nat} {no : Bool} {c : Int} (h : isB l a no c = true) : a + 1 ≤ l.length := (isB_lt h).1
theorem numberS_le {a : Nat} (no : Bool) (ha : a ≤ l.length) : a ≤ (numberS l a no).2.1 ∧ (numberS l a no).2.1 ≤ l.length := by
  have h1 := numS_le l a no ha
  unfold numberS
  simp only
  split
  · have := isB_le ‹_›; simp only; omega
  · split
    · have k := ‹(!isB l a no 45 && isB l (numS l a no).1 (numS l a no).2 117) = true›
      simp only [Bool.and_eq_true] at k
      have := isB_le k.2; simp only; omega
    · split
      · have := isB_le ‹_›
        have h2 := someS_le l digB ((numS l a no).1 + 1) false (by omega)
        refine ⟨?_, h2.2⟩
        show a ≤ (someS l digB ((numS l a no).1 + 1) false).1
        omega
      · exact h1
theorem toldS_le {a : Nat} (no : Bool) (ha : a ≤ l.length) : a ≤ (toldS l a no).2.1 ∧ (toldS l a no).2.1 ≤ l.length := by
  unfold toldS
  split
  · exact wordS_le l wTrue a no ha
  · split
    · exact wordS_le l wFalse a no ha
    · split
      · have := isB_le ‹_›
        have h1 := ink_le l 34 inT 110 (a + 1) false (by omega)
        have h2 := wordS_le l [34] (ink l 34 inT 110 (a + 1) false).2.1 (ink l 34 inT 110 (a + 1) false).2.2 h1.2.1
        refine ⟨?_, h2.2⟩
        show a ≤ (wordS l [34] (ink l 34 inT 110 (a + 1) false).2.1 (ink l 34 inT 110 (a + 1) false).2.2).1
        omega
      · exact numberS_le no ha
theorem fieldS_le {a : Nat} (no : Bool) (ha : a ≤ l.length) : a ≤ (fieldS l a no).2.1 ∧ (fieldS l a no).2.1 ≤ l.length := by
  have h1 := sgn_le l inK false a no ha
  have h2 := wordS_le l [61] (sgn l inK false a no).2.1 (sgn l inK false a no).2.2 h1.2.1
  have h3 := toldS_le (l := l) (wordS l [61] (sgn l inK false a no).2.1 (sgn l inK false a no).2.2).2 h2.2
  unfold fieldS
  simp only
  omega
theorem toldS_no (a : Nat) : (toldS l a true).2 = (a, true) := by simp [toldS, numberS, isB_no, numS]
theorem v_field {a : Nat} (ha : a ≤ l.length) : if (fieldS l a false).2.2 = true then V l .fk0 a = ((fieldS l a false).2.1 : Int) else After l (fieldS l a false).2.1 (V l .fk0 a) := by
  have h1 := sgn_le l inK false a false ha
  have hv := v_fk ha
  have he := eq_fk ha
  show if (toldS l (wordS l [61] (sgn l inK false a false).2.1 (sgn l inK false a false).2.2).1 (wordS l [61] (sgn l inK false a false).2.1 (sgn l inK false a false).2.2).2).2.2 = true then V l .fk0 a = ((toldS l (wordS l [61] (sgn l inK false a false).2.1 (sgn l inK false a false).2.2).1 (wordS l [61] (sgn l inK false a false).2.1 (sgn l inK false a false).2.2).2).2.1 : Int) else After l (toldS l (wordS l [61] (sgn l inK false a false).2.1 (sgn l inK false a false).2.2).1 (wordS l [61] (sgn l inK false a false).2.1 (sgn l inK false a false).2.2).2).2.1 (V l .fk0 a)
  cases hn : (sgn l inK false a false).2.2
  · rw [hn, if_neg (by simp), he hn] at hv
    have h2 := wordS_le l [61] (sgn l inK false a false).2.1 false h1.2.1
    cases hw : (wordS l [61] (sgn l inK false a false).2.1 false).2
    · rw [hw, if_neg (by simp)] at hv
      rw [hv]
      exact v_told h2.2
    · rw [hw, if_pos rfl] at hv
      rw [toldS_no, if_pos rfl]; exact hv
  · rw [hn, if_pos rfl] at hv
    rw [word_no, toldS_no, if_pos rfl]; exact hv
/-- Behind all fields. -/
def Tail (l : List UInt8) (a : Nat) (x : Int) : Prop := x = if isB l a false 32 = true then V l .tm0 (a + 1) else if isB l a false 10 = true then V l .line (a + 1) else (a : Int)
theorem sgn_lt {m : List UInt8} {wide : Bool} {a : Nat} (ha : a ≤ l.length) (h : (sgn l m wide a false).2.2 = false) : a < (sgn l m wide a false).2.1 := by
  have h1 := (sgn_le l m wide a false ha).1
  unfold sgn at h h1 ⊢
  simp only [Bool.false_eq_true, if_false, Bool.or_eq_false_iff, beq_eq_false_iff_ne] at h h1 ⊢
  omega
theorem fieldS_no_le {a : Nat} (ha : a ≤ l.length) (h : (fieldS l a false).2.2 = false) : a < (fieldS l a false).2.1 := by
  have h1 := sgn_le l inK false a false ha
  have h2 := wordS_le l [61] (sgn l inK false a false).2.1 (sgn l inK false a false).2.2 h1.2.1
  have h3 := toldS_le (l := l) (wordS l [61] (sgn l inK false a false).2.1 (sgn l inK false a false).2.2).2 h2.2
  have hk : (sgn l inK false a false).2.2 = false := by
    cases hn : (sgn l inK false a false).2.2
    · rfl
    · unfold fieldS at h
      simp only at h
      rw [hn, word_no, toldS_no] at h; cases h
  have h4 := sgn_lt ha hk
  unfold fieldS
  simp only
  omega
theorem fieldsS_le : ∀ f a no acc, a ≤ l.length → a ≤ (fieldsS l f a no acc).2.1 ∧ (fieldsS l f a no acc).2.1 ≤ l.length
  | 0, a, no, acc, h => ⟨Nat.le_refl _, h⟩
  | f + 1, a, no, acc, h => by
    have h1 := fieldS_le no h
    unfold fieldsS
    by_cases k : isB l (fieldS l a no).2.1 (fieldS l a no).2.2 44 = true
    · rw [if_pos k]
      have := isB_le k
      have h2 := fieldsS_le f ((fieldS l a no).2.1 + 1) false (acc ++ [(fieldS l a no).1]) (by omega)
      omega
    · rw [if_neg k]; exact h1
theorem fieldS_no (a : Nat) : (fieldS l a true).2 = (a, true) := by
  unfold fieldS
  simp only
  rw [sgn_no, word_no, toldS_no]
theorem fieldsS_no (a : Nat) (acc : List MField) : ∀ f, (fieldsS l f a true acc).2 = (a, true)
  | 0 => rfl
  | f + 1 => by
    unfold fieldsS
    rw [fieldS_no]
    simp [isB_no]
theorem v_fields : ∀ f a acc, l.length < f + a → a ≤ l.length → if (fieldsS l f a false acc).2.2 = true then V l .fk0 a = ((fieldsS l f a false acc).2.1 : Int) else a < (fieldsS l f a false acc).2.1 ∧ Tail l (fieldsS l f a false acc).2.1 (V l .fk0 a)
  | 0, a, acc, hf, hl => by omega
  | f + 1, a, acc, hf, hl => by
    have hle := fieldS_le (l := l) (a := a) false hl
    have hv := v_field hl
    unfold fieldsS
    cases hn : (fieldS l a false).2.2
    · have hlt := fieldS_no_le hl hn
      rw [hn, if_neg (by simp)] at hv
      by_cases k : isB l (fieldS l a false).2.1 false 44 = true
      · rw [if_pos k]
        have hb := isB_le k
        unfold After at hv
        rw [if_pos k] at hv
        have ih := v_fields f ((fieldS l a false).2.1 + 1) (acc ++ [(fieldS l a false).1]) (by omega) hb
        rw [hv]
        split
        · rename_i h; rw [if_pos h] at ih; exact ih
        · rename_i h; rw [if_neg h] at ih; exact ⟨by omega, ih.2⟩
      · rw [if_neg k, hn, if_neg (by simp)]
        refine ⟨hlt, ?_⟩
        unfold After at hv
        rw [if_neg k] at hv
        exact hv
    · rw [hn, if_pos rfl] at hv
      simp only [isB_no, Bool.false_eq_true, if_false]
      rw [hn, if_pos rfl]
      exact hv
theorem lineS_le {a : Nat} (ha : a ≤ l.length) : a ≤ (lineS l a).2.1 ∧ (lineS l a).2.1 ≤ l.length := by
  have h1 := sgn_le l inM false a (isB l a false 35) ha
  have h2 := tagsS_le (l := l) (l.length + 1) (sgn l inM false a (isB l a false 35)).2.1 (sgn l inM false a (isB l a false 35)).2.2 [] h1.2.1
  have h3 := wordS_le l [32] (tagsS l (l.length + 1) (sgn l inM false a (isB l a false 35)).2.1 (sgn l inM false a (isB l a false 35)).2.2 []).2.1 (tagsS l (l.length + 1) (sgn l inM false a (isB l a false 35)).2.1 (sgn l inM false a (isB l a false 35)).2.2 []).2.2 h2.2
  have h4 := fieldsS_le (l := l) (l.length + 1) (wordS l [32] (tagsS l (l.length + 1) (sgn l inM false a (isB l a false 35)).2.1 (sgn l inM false a (isB l a false 35)).2.2 []).2.1 (tagsS l (l.length + 1) (sgn l inM false a (isB l a false 35)).2.1 (sgn l inM false a (isB l a false 35)).2.2 []).2.2).1 (wordS l [32] (tagsS l (l.length + 1) (sgn l inM false a (isB l a false 35)).2.1 (sgn l inM false a (isB l a false 35)).2.2 []).2.1 (tagsS l (l.length + 1) (sgn l inM false a (isB l a false 35)).2.1 (sgn l inM false a (isB l a false 35)).2.2 []).2.2).2 [] h3.2
  unfold lineS
  simp only
  generalize (tagsS l (l.length + 1) (sgn l inM false a (isB l a false 35)).2.1 (sgn l inM false a (isB l a false 35)).2.2 []) = t at *
  generalize (fieldsS l (l.length + 1) (wordS l [32] t.2.1 t.2.2).1 (wordS l [32] t.2.1 t.2.2).2 []) = x at *
  split
  · have k := isB_le ‹_›
    have h5 := numS_le l (x.2.1 + 1) false (by omega)
    have h6 := wordS_le l [10] (numS l (x.2.1 + 1) false).1 (numS l (x.2.1 + 1) false).2 h5.2
    exact ⟨by simp only; omega, h6.2⟩
  · have h6 := wordS_le l [10] x.2.1 x.2.2 h4.2
    exact ⟨by simp only; omega, h6.2⟩
theorem v_line {a : Nat} (ha : a < l.length) : if (lineS l a).2.2 = true then V l .line a = ((lineS l a).2.1 : Int) else a < (lineS l a).2.1 ∧ V l .line a = V l .line (lineS l a).2.1 := by
  have h1 := sgn_le l inM false a (isB l a false 35) (by omega)
  have hv := v_nm ha
  have hfk := forks_nm ha
  unfold lineS
  simp only
  cases hn : (sgn l inM false a (isB l a false 35)).2.2
  · rw [hn, if_neg (by simp)] at hv
    have h2 := tagsS_le (l := l) (l.length + 1) (sgn l inM false a (isB l a false 35)).2.1 false [] h1.2.1
    have ht := v_tags (l.length + 1) _ [] _ (by omega) h1.2.1 (hfk hn)
    rw [← hv] at ht
    generalize (tagsS l (l.length + 1) (sgn l inM false a (isB l a false 35)).2.1 false []) = t at *
    have h3 := wordS_le l [32] t.2.1 t.2.2 h2.2
    cases hw : (wordS l [32] t.2.1 t.2.2).2
    · rw [hw, if_neg (by simp)] at ht
      generalize (wordS l [32] t.2.1 t.2.2).1 = b at *
      have h4 := fieldsS_le (l := l) (l.length + 1) b false [] h3.2
      have hx := v_fields (l := l) (l.length + 1) b [] (by omega) h3.2
      rw [← ht] at hx
      generalize fieldsS l (l.length + 1) b false [] = x at *
      cases hxn : x.2.2
      · rw [hxn, if_neg (by simp)] at hx
        obtain ⟨hlt, htl⟩ := hx
        unfold Tail at htl
        cases k : isB l x.2.1 false 32
        · simp only [Bool.false_eq_true, if_false]
          rw [k, if_neg (by simp)] at htl
          rw [word1]
          by_cases k2 : isB l x.2.1 false 10 = true
          · rw [if_pos k2] at htl
            have k3 : isB l x.2.1 false ((10 : UInt8).toNat : Int) = true := k2
            rw [if_pos k3, if_neg (by simp)]
            exact ⟨by simp only; omega, htl⟩
          · rw [if_neg k2] at htl
            have k3 : ¬ isB l x.2.1 false ((10 : UInt8).toNat : Int) = true := k2
            rw [if_neg k3, if_pos rfl]
            exact htl
        · simp only [if_true]
          rw [k, if_pos rfl] at htl
          have hb := isB_le k
          generalize hc : x.2.1 + 1 = c at *
          have e : numS l c false = someS l digB (takeA l c false 45) false := rfl
          rw [e]
          have fin : ∀ d, (d < l.length → digB (bt l d) = false) → c ≤ d → V l .line a = V l .tm d → if (wordS l [10] d false).2 = true then V l .line a = ((wordS l [10] d false).1 : Int) else a < (wordS l [10] d false).1 ∧ V l .line a = V l .line (wordS l [10] d false).1 := fun d hd hcd hvd => by
            rw [word1]
            by_cases k2 : isB l d false 10 = true
            · have k3 : isB l d false ((10 : UInt8).toNat : Int) = true := k2
              rw [if_pos k3, if_neg (by simp)]
              refine ⟨by simp only; omega, ?_⟩
              have hi := isB_iff.1 k2
              rw [hvd]
              refine vd_yes hi.1 ?_
              show (if digB _ = true then _ else if _ = 10 then _ else _) = _
              rw [if_neg (by rw [hd hi.1]; simp), if_pos hi.2]
            · have k3 : ¬ isB l d false ((10 : UInt8).toNat : Int) = true := k2
              rw [if_neg k3, if_pos rfl, hvd]
              by_cases hdl : d < l.length
              · refine vd_no hdl ?_
                show (if digB _ = true then _ else if _ = 10 then _ else _) = _
                rw [if_neg (by rw [hd hdl]; simp), if_neg (fun h => k2 (isB_iff.2 ⟨hdl, h⟩))]
              · exact vd_end (by omega) rfl
          cases k4 : isB l c false 45
          · have e2 : takeA l c false 45 = c := by unfold takeA; rw [k4]; rfl
            rw [e2]
            have hs := vd_some (l := l) (st := stL) (ac := acL) (T0 := .tm0) (T := .tm) (p := digB) (a := c) rfl (fun hl h => by
              have := digB_iff.1 h
              show (if bt l c = 45 then _ else if digB (bt l c) = true then _ else _) = _
              rw [if_neg (by omega), if_pos h]) (fun hl h => by
              show (if bt l c = 45 then _ else if digB (bt l c) = true then _ else _) = _
              rw [if_neg (isB_f k4 hl), if_neg (by rw [h]; simp)]) (fun c h => by show (if _ then _ else _) = _; rw [if_pos h])
            have hle := someS_le l digB c false hb
            have hst := someS_stop (l := l) (p := digB) (a := c)
            cases hn5 : (someS l digB c false).2
            · rw [hn5, if_neg (by simp)] at hs
              exact fin _ hst (by omega) (htl.trans hs)
            · rw [hn5, if_pos rfl] at hs
              rw [word_no, if_pos rfl]
              exact htl.trans hs
          · have hk := isB_iff.1 k4
            have e2 : takeA l c false 45 = c + 1 := by unfold takeA; rw [k4]; rfl
            rw [e2]
            have hv5 : V l .tm0 c = V l .tmN (c + 1) := vd_yes hk.1 (by rw [hk.2]; rfl)
            have hs := vd_some (l := l) (st := stL) (ac := acL) (T0 := .tmN) (T := .tm) (p := digB) (a := c + 1) rfl (fun hl h => by show (if _ then _ else _) = _; rw [if_pos h]) (fun hl h => by show (if _ then _ else _) = _; rw [if_neg (by rw [h]; simp)]) (fun c h => by show (if _ then _ else _) = _; rw [if_pos h])
            have hle := someS_le l digB (c + 1) false (by omega)
            have hst := someS_stop (l := l) (p := digB) (a := c + 1)
            cases hn5 : (someS l digB (c + 1) false).2
            · rw [hn5, if_neg (by simp)] at hs
              exact fin _ hst (by omega) ((htl.trans hv5).trans hs)
            · rw [hn5, if_pos rfl] at hs
              rw [word_no, if_pos rfl]
              exact (htl.trans hv5).trans hs
      · rw [hxn, if_pos rfl] at hx
        rw [isB_no]
        simp only [Bool.false_eq_true, if_false]
        rw [word_no, if_pos rfl]
        exact hx
    · rw [hw, if_pos rfl] at ht
      rw [fieldsS_no, isB_no]
      simp only [Bool.false_eq_true, if_false]
      rw [word_no, if_pos rfl]
      exact ht
  · rw [hn, if_pos rfl] at hv
    rw [tagsS_no, word_no, fieldsS_no, isB_no]
    simp only [Bool.false_eq_true, if_false]
    rw [word_no, if_pos rfl]
    exact hv
theorem v_rows : ∀ f a acc, l.length < f + a → a ≤ l.length → V l .line a = if (rowsGo lineS l f a acc).2.2 = true then ((rowsGo lineS l f a acc).2.1 : Int) else -1
  | 0, a, acc, hf, hl => by omega
  | f + 1, a, acc, hf, hl => by
    unfold rowsGo
    by_cases h1 : l.length ≤ a
    · rw [if_pos h1]
      simp only [Bool.false_eq_true, if_false]
      exact vd_acc h1 rfl
    · rw [if_neg h1]
      have hv := v_line (l := l) (a := a) (by omega)
      have hle := lineS_le (l := l) (a := a) hl
      cases hn : (lineS l a).2.2
      · rw [hn, if_neg (by simp)] at hv
        simp only [Bool.false_eq_true, if_false]
        rw [hv.2]
        exact v_rows f _ _ (by omega) hle.2
      · rw [hn, if_pos rfl] at hv
        simp only [if_true]
        exact hv
theorem lineBad_eq (l : List UInt8) : lineBad l = vdGo stL acL .line l 0 := by
  unfold lineBad lineRows
  rw [← v_rows (l.length + 1) 0 [] (by omega) (by omega)]
  rfl
theorem lineBad_bd (l : List UInt8) : -1 ≤ lineBad l ∧ lineBad l ≤ l.length := by
  rw [lineBad_eq]
  have := vdGo_bd (st := stL) (ac := acL) l LQ.line 0
  omega
theorem lineBad_far {l : List UInt8} {k : Nat} (h : lineBad l = (k : Int)) (hk : k < l.length) (e : List UInt8) : lineBad (l.take (k + 1) ++ e) = k := by
  rw [lineBad_eq] at h ⊢
  exact vdGo_far l LQ.line 0 k h (by omega) e
theorem lineBad_pre {l : List UInt8} {k : Nat} (h : lineBad l = (k : Int)) : lineBad (l.take k) = k ∨ lineBad (l.take k) = -1 := by
  rw [lineBad_eq] at h ⊢
  exact vdGo_pre l LQ.line k h
theorem lineBad_twice {l : List UInt8} (h : lineBad l = -1) : lineBad (l ++ l) = -1 := by
  rw [lineBad_eq] at h ⊢
  obtain ⟨q, hq, ht⟩ := vdGo_app l LQ.line h
  have : q = LQ.line := by cases q <;> simp [acL] at hq ⊢
  subst this
  rw [ht l]
  exact vdGo_neg l _ _ _ h
/-- The ends that are looked for. -/
def endsL : List (List UInt8) := [[97, 44, 97, 61, 97, 32, 97, 61, 49, 46, 49, 32, 49, 10], [32, 32, 97, 61, 49, 10], [32, 61, 97, 32, 97, 61, 49, 10], [32, 61, 49, 10], [34, 34, 10], [116, 114, 117, 101, 10], [102, 97, 108, 115, 101, 10], [97, 61, 34, 34, 10]]
def restU : List (List UInt8) := [[], [128], [160], [144], [128, 128], [160, 128], [144, 128], [128, 128, 128], [144, 128, 128]]
/-- Which end closes a state: of restU, of endsL, from where. -/
def closeU : UQ → Nat
  | .u1 => 1 | .u2 => 4 | .u3 => 7 | .e0 => 5 | .ed => 4 | .f0 => 8 | .f4 => 7
def closeL : LQ → Nat × Nat × Nat
  | .line => (0, 0, 14) | .nm => (0, 1, 1) | .nmE => (0, 1, 0) | .tk0 => (0, 0, 2) | .tk => (0, 0, 3) | .tkE => (0, 2, 0) | .tv0 => (0, 0, 4) | .tv => (0, 0, 5) | .tvE => (0, 1, 0) | .tvU u => (closeU u, 0, 5)
  | .fk0 => (0, 1, 2) | .fk => (0, 1, 3) | .fkE => (0, 3, 0) | .fv => (0, 1, 4) | .t1 => (0, 5, 1) | .t2 => (0, 5, 2) | .t3 => (0, 5, 3) | .f1 => (0, 6, 1) | .f2 => (0, 6, 2) | .f3 => (0, 6, 3) | .f4 => (0, 6, 4)
  | .ve => (0, 1, 5) | .neg => (0, 1, 4) | .iM => (0, 1, 5) | .iP => (0, 1, 5) | .dot => (0, 1, 4) | .fr => (0, 1, 5) | .qq => (0, 4, 1) | .qE => (0, 4, 0) | .qU u => (closeU u, 4, 1) | .tm0 => (0, 1, 4) | .tmN => (0, 1, 4) | .tm => (0, 1, 5)
theorem close_ok (q : LQ) : (closeL q).1 < 9 ∧ (closeL q).2.1 < 8 ∧ (closeL q).2.2 ≤ (endsL.getD (closeL q).2.1 []).length ∧ vdGo stL acL q (restU.getD (closeL q).1 [] ++ (endsL.getD (closeL q).2.1 []).drop (closeL q).2.2) 0 = -1 := by
  cases q
  case tvU u => cases u <;> exact ⟨by decide, by decide, by decide, by decide +kernel⟩
  case qU u => cases u <;> exact ⟨by decide, by decide, by decide, by decide +kernel⟩
  all_goals exact ⟨by decide, by decide, by decide, by decide +kernel⟩
theorem line_closes {l : List UInt8} {k : Nat} (hk : k ≤ l.length) (h : lineBad l = -1 ∨ (k : Int) ≤ lineBad l) : ∃ r i j, r < 9 ∧ i < 8 ∧ j ≤ (endsL.getD i []).length ∧ lineBad (l.take k ++ (restU.getD r [] ++ (endsL.getD i []).drop j)) = -1 := by
  rw [lineBad_eq] at h
  obtain ⟨q, hq, _⟩ := vdGo_reach (st := stL) (ac := acL) k l LQ.line 0 hk (by simpa using h)
  obtain ⟨h1, h2, h3, h4⟩ := close_ok q
  refine ⟨_, _, _, h1, h2, h3, ?_⟩
  rw [lineBad_eq, hq]
  exact vdGo_neg _ _ _ _ h4
end
end
section
section
variable {Q : Type} {st : Q → Int → Option Q} {ac : Q → Bool} {l : List UInt8}
/-- A verdict behind a stage. -/
def GG (x : Int) (r : Nat × Bool) (y : Nat → Int) : Prop := x = if r.2 = true then (r.1 : Int) else y r.1
theorem GG.bind {x : Int} {r : Nat × Bool} {y z : Nat → Int} {F : Nat → Bool → Nat × Bool} (h : GG x r y) (h0 : F r.1 true = (r.1, true)) (h1 : r.2 = false → GG (y r.1) (F r.1 false) z) : GG x (F r.1 r.2) z := by
  unfold GG at h ⊢
  cases hr : r.2
  · rw [hr, if_neg (by simp)] at h
    rw [h]
    exact h1 hr
  · rw [hr, if_pos rfl] at h
    rw [h0, if_pos rfl]; exact h
theorem GG.then_ {x : Int} {r : Nat × Bool} {y z : Nat → Int} (h : GG x r y) (h1 : r.2 = false → y r.1 = z r.1) : GG x r z := by
  unfold GG at h ⊢
  cases hr : r.2
  · rw [hr, if_neg (by simp)] at h; rw [if_neg (by simp), h, h1 hr]
  · rw [hr, if_pos rfl] at h; rw [if_pos rfl, h]
/-- A fork of one byte, of two. -/
def gf1 (st : Q → Int → Option Q) (ac : Q → Bool) (l : List UInt8) (c : Int) (q : Q) (p : Nat) : Int := if isB l p false c = true then vd st ac l q (p + 1) else (p : Int)
def gf2 (st : Q → Int → Option Q) (ac : Q → Bool) (l : List UInt8) (c : Int) (q : Q) (d : Int) (q' : Q) (p : Nat) : Int := if isB l p false c = true then vd st ac l q (p + 1) else gf1 st ac l d q' p
theorem gf1_of {q q' : Q} {c : Int} {p : Nat} (hac : ac q = false) (h : p < l.length → st q (bt l p) = if bt l p = c then some q' else none) : vd st ac l q p = gf1 st ac l c q' p := by
  unfold gf1
  by_cases hp : p < l.length
  · have h1 := h hp
    cases k : isB l p false c
    · rw [if_neg (isB_f k hp)] at h1
      rw [if_neg (by simp)]
      exact vd_no hp h1
    · rw [if_pos (isB_iff.1 k).2] at h1
      rw [if_pos rfl]
      exact vd_yes hp h1
  · rw [isB_end hp, if_neg (by simp)]
    exact vd_end (by omega) hac
theorem gf2_of {q q1 q2 : Q} {c d : Int} {p : Nat} (hac : ac q = false) (h : p < l.length → st q (bt l p) = if bt l p = c then some q1 else if bt l p = d then some q2 else none) : vd st ac l q p = gf2 st ac l c q1 d q2 p := by
  unfold gf2 gf1
  by_cases hp : p < l.length
  · have h1 := h hp
    cases k : isB l p false c
    · rw [if_neg (isB_f k hp)] at h1
      rw [if_neg (by simp)]
      cases k2 : isB l p false d
      · rw [if_neg (isB_f k2 hp)] at h1
        rw [if_neg (by simp)]
        exact vd_no hp h1
      · rw [if_pos (isB_iff.1 k2).2] at h1
        rw [if_pos rfl]
        exact vd_yes hp h1
    · rw [if_pos (isB_iff.1 k).2] at h1
      rw [if_pos rfl]
      exact vd_yes hp h1
  · rw [isB_end hp, isB_end hp, if_neg (by simp), if_neg (by simp)]
    exact vd_end (by omega) hac
theorem gg_word1 (c : UInt8) (q : Q) (p : Nat) : GG (gf1 st ac l c.toNat q p) (wordS l [c] p false) (vd st ac l q) := by
  unfold GG gf1
  rw [word1]
  cases k : isB l p false c.toNat <;> simp
theorem gg_some {P : Int → Bool} {q0 q : Q} {a : Nat} (hac : ac q0 = false) (h0 : a < l.length → st q0 (bt l a) = if P (bt l a) then some q else none) (h : ∀ d, P d = true → st q d = some q) : GG (vd st ac l q0 a) (someS l P a false) (vd st ac l q) :=
  vd_some hac (fun hl hp => by rw [h0 hl, if_pos hp]) (fun hl hp => by rw [h0 hl, if_neg (by rw [hp]; simp)]) h
/-- Bytes of a class, then one byte. -/
theorem gg_some1 {P : Int → Bool} {q0 q q' : Q} {c : Int} {a : Nat} (hac : ac q0 = false) (hac2 : ac q = false) (h0 : a < l.length → st q0 (bt l a) = if P (bt l a) then some q else none) (h : ∀ d, st q d = if P d then some q else if d = c then some q' else none) : GG (vd st ac l q0 a) (someS l P a false) (gf1 st ac l c q') :=
  (gg_some hac h0 (fun d hd => by rw [h, if_pos hd])).then_ (fun _ => gf1_of hac2 (fun hp => by rw [h, if_neg (by rw [someS_stop hp]; simp)]))
/-- .., then one of two. -/
theorem gg_some2 {P : Int → Bool} {q0 q q1 q2 : Q} {c d : Int} {a : Nat} (hac : ac q0 = false) (hac2 : ac q = false) (h0 : a < l.length → st q0 (bt l a) = if P (bt l a) then some q else none) (h : ∀ x, st q x = if P x then some q else if x = c then some q1 else if x = d then some q2 else none) : GG (vd st ac l q0 a) (someS l P a false) (gf2 st ac l c q1 d q2) :=
  (gg_some hac h0 (fun d hd => by rw [h, if_pos hd])).then_ (fun _ => gf2_of hac2 (fun hp => by rw [h, if_neg (by rw [someS_stop hp]; simp)]))
/-- A whole number. -/
theorem gg_num {d0 dN di : Q} {a : Nat} (h1 : ac d0 = false) (h2 : ac dN = false) (h3 : ∀ c, st d0 c = if c = 45 then some dN else if digB c then some di else none) (h4 : ∀ c, st dN c = if digB c then some di else none) (h5 : ∀ c, digB c = true → st di c = some di) : GG (vd st ac l d0 a) (numS l a false) (vd st ac l di) := by
  unfold numS takeA
  rw [if_neg (by simp)]
  cases k4 : isB l a false 45
  · rw [if_neg (by simp)]
    exact vd_some h1 (fun hl h => by
      have := digB_iff.1 h
      rw [h3, if_neg (by omega), if_pos h]) (fun hl h => by
      rw [h3, if_neg (isB_f k4 hl), if_neg (by rw [h]; simp)]) h5
  · have hk := isB_iff.1 k4
    rw [if_pos rfl]
    have hv5 : vd st ac l d0 a = vd st ac l dN (a + 1) := vd_yes hk.1 (by rw [h3, hk.2]; rfl)
    unfold GG
    rw [hv5]
    exact vd_some h2 (fun hl h => by rw [h4, if_pos h]) (fun hl h => by rw [h4, if_neg (by rw [h]; simp)]) h5
theorem num_stopG {a : Nat} (h : (numS l a false).1 < l.length) : digB (bt l (numS l a false).1) = false := by
  unfold numS at h ⊢
  rw [if_neg (by simp)] at h ⊢
  exact someS_stop h
/-- A decimal, and what stands behind it. -/
theorem gg_dec {d0 dN di dp df : Q} {y : Nat → Int} {a : Nat} (h1 : ac d0 = false) (h2 : ac dN = false) (h3 : ∀ c, st d0 c = if c = 45 then some dN else if digB c then some di else none) (h4 : ∀ c, st dN c = if digB c then some di else none) (h5 : ∀ c, digB c = true → st di c = some di) (h6 : st di 46 = some dp) (h7 : ac dp = false) (h8 : ∀ c, st dp c = if digB c then some df else none) (h9 : ∀ c, digB c = true → st df c = some df)
    (hi : ∀ p, (p < l.length → digB (bt l p) = false ∧ bt l p ≠ 46) → vd st ac l di p = y p) (hf : ∀ p, (p < l.length → digB (bt l p) = false) → vd st ac l df p = y p) : GG (vd st ac l d0 a) (decS l a false) y := by
  have h := gg_num (l := l) (st := st) (ac := ac) (a := a) h1 h2 h3 h4 h5
  have hs := num_stopG (l := l) (a := a)
  unfold decS
  generalize numS l a false = r at h hs ⊢
  obtain ⟨p, np⟩ := r
  unfold GG at h
  simp only at h hs ⊢
  cases np
  · rw [if_neg (by simp)] at h ⊢
    cases k : isB l p false 46
    · rw [if_neg (by simp)]
      unfold GG
      rw [if_neg (by simp), h]
      exact hi p (fun hp => ⟨hs hp, isB_f k hp⟩)
    · have hk := isB_iff.1 k
      rw [if_pos rfl]
      have h5 : vd st ac l di p = vd st ac l dp (p + 1) := vd_yes hk.1 (by
        rw [hk.2]; exact h6)
      rw [h, h5]
      refine GG.then_ (y := vd st ac l df) (vd_some h7 (fun hl h => by rw [h8, if_pos h]) (fun hl h => by rw [h8, if_neg (by rw [h]; simp)]) h9) (fun _ => ?_)
      exact hf _ (fun hp => someS_stop hp)
  · rw [if_pos rfl] at h ⊢
    unfold GG
    rw [if_pos rfl]; exact h
theorem dec_noG (a : Nat) : decS l a true = (a, true) := by simp [decS, numS]
theorem some_noG (P : Int → Bool) (a : Nat) : someS l P a true = (a, true) := by simp [someS]
end
end
section
inductive DQ where
  | line | np | nd | g0 | g | x0 | x | d0 | dN | di | dp | df | w0 | wN | wi
def stD : DQ → Int → Option DQ
  | .line, c => if dtNode c then some .nd else none
  | .np, c => if dtNode c then some .nd else none
  | .nd, c => if dtNode c then some .nd else if c = 46 then some .np else if c = 59 then some .g0 else if c = 32 then some .d0 else none
  | .g0, c => if dtNode c then some .g else none
  | .g, c => if dtNode c then some .g else if c = 61 then some .x0 else none
  | .x0, c => if dtInk c then some .x else none
  | .x, c => if dtInk c then some .x else if c = 59 then some .g0 else if c = 32 then some .d0 else none
  | .d0, c => if c = 45 then some .dN else if digB c then some .di else none
  | .dN, c => if digB c then some .di else none
  | .di, c => if digB c then some .di else if c = 46 then some .dp else if c = 32 then some .w0 else none
  | .dp, c => if digB c then some .df else none
  | .df, c => if digB c then some .df else if c = 32 then some .w0 else none
  | .w0, c => if c = 45 then some .wN else if digB c then some .wi else none
  | .wN, c => if digB c then some .wi else none
  | .wi, c => if digB c then some .wi else if c = 10 then some .line else none
def acD : DQ → Bool
  | .line => true
  | _ => false
section
variable {l : List UInt8}
abbrev VD (l : List UInt8) (q : DQ) (a : Nat) : Int := vd stD acD l q a
abbrev E1 (l : List UInt8) (c : Int) (q : DQ) : Nat → Int := gf1 stD acD l c q
/-- Behind a path, a tag: ; or a space. -/
abbrev E2 (l : List UInt8) : Nat → Int := gf2 stD acD l 59 .g0 32 .d0
/-- Behind a node: a point, too. -/
def E3 (l : List UInt8) (p : Nat) : Int := if isB l p false 46 = true then VD l .np (p + 1) else E2 l p
theorem nd_E3 {p : Nat} (h : p < l.length → dtNode (bt l p) = false) : VD l .nd p = E3 l p := by
  unfold E3
  cases k : isB l p false 46
  · rw [if_neg (by simp)]
    exact gf2_of rfl (fun hp => by
      show (if dtNode _ = true then _ else if _ = 46 then _ else _) = _
      rw [if_neg (by rw [h hp]; simp), if_neg (isB_f k hp)])
  · have hk := isB_iff.1 k
    rw [if_pos rfl]
    exact vd_yes hk.1 (by
      show (if dtNode _ = true then _ else _) = _
      rw [if_neg (by rw [h hk.1]; simp), hk.2]; rfl)
theorem gs_node {a : Nat} : GG (VD l .np a) (someS l dtNode a false) (E3 l) :=
  (gg_some (q := DQ.nd) rfl (fun _ => rfl) (fun d hd => by show (if dtNode d = true then _ else _) = _; rw [if_pos hd])).then_ (fun _ => nd_E3 (fun hp => someS_stop hp))
theorem dRest_no (a : Nat) : ∀ f, dRestS l f a true = (a, true)
  | 0 => rfl
  | f + 1 => by unfold dRestS; rw [isB_no]; rfl
theorem gs_rest : ∀ f a, l.length < f + a → a ≤ l.length → GG (E3 l a) (dRestS l f a false) (E2 l)
  | 0, a, hf, ha => by omega
  | f + 1, a, hf, ha => by
    unfold dRestS
    cases k : isB l a false 46
    · rw [if_neg (by simp)]
      unfold GG E3
      rw [k, if_neg (by simp), if_neg (by simp)]
    · have hk := isB_lt k
      rw [if_pos rfl]
      have e : E3 l a = VD l .np (a + 1) := by unfold E3; rw [k, if_pos rfl]
      rw [e]
      have hle := someS_le l dtNode (a + 1) false (by omega)
      exact GG.bind (F := fun p no => dRestS l f p no) gs_node (dRest_no _ _) (fun _ => gs_rest f _ (by omega) hle.2)
theorem line_np {a : Nat} (ha : a < l.length) : VD l .line a = VD l .np a := by
  cases h : dtNode (bt l a)
  · rw [show VD l .line a = (a : Int) from vd_no ha (by show (if dtNode _ = true then _ else _) = _; rw [h]; rfl), show VD l .np a = (a : Int) from vd_no ha (by show (if dtNode _ = true then _ else _) = _; rw [h]; rfl)]
  · rw [show VD l .line a = VD l .nd (a + 1) from vd_yes ha (by show (if dtNode _ = true then _ else _) = _; rw [h]; rfl), show VD l .np a = VD l .nd (a + 1) from vd_yes ha (by show (if dtNode _ = true then _ else _) = _; rw [h]; rfl)]
/-- A path. -/
theorem gs_path {a : Nat} (ha : a < l.length) : GG (VD l .line a) (dPathS l a) (E2 l) := by
  rw [line_np ha]
  have hle := someS_le l dtNode a false (by omega)
  exact GG.bind (F := fun p no => dRestS l (l.length + 1) p no) gs_node (dRest_no _ _) (fun _ => gs_rest (l.length + 1) _ (by omega) hle.2)
/-- A tag. -/
theorem gs_dtag {a : Nat} : GG (VD l .g0 a) (dTagS l a false).2 (E2 l) := by
  have h1 : GG (VD l .g0 a) (someS l dtNode a false) (E1 l 61 .x0) := gg_some1 (q := .g) rfl rfl (fun _ => rfl) (fun d => rfl)
  have h2 := GG.bind (F := fun p no => wordS l [61] p no) h1 (word_no _ _ _) (fun _ => gg_word1 61 DQ.x0 _)
  exact GG.bind (F := fun p no => someS l dtInk p no) h2 (some_noG _ _) (fun _ => gg_some2 (q := DQ.x) rfl rfl (fun _ => rfl) (fun d => rfl))
theorem dTagsGo_no (a : Nat) (acc : List MTag) : ∀ f, (dTagsGo l f a true acc).2 = (a, true)
  | 0 => rfl
  | f + 1 => by unfold dTagsGo; rw [isB_no]; rfl
theorem dTagsGo_acc : ∀ f a no acc, (dTagsGo l f a no acc).2 = (dTagsGo l f a no []).2
  | 0, a, no, acc => rfl
  | f + 1, a, no, acc => by
    unfold dTagsGo
    split
    · rw [dTagsGo_acc f _ _ (acc ++ _), dTagsGo_acc f _ _ ([] ++ _)]
    · rfl
theorem gs_dtags : ∀ f a acc, l.length < f + a → a ≤ l.length → GG (E2 l a) (dTagsGo l f a false acc).2 (E1 l 32 .d0)
  | 0, a, acc, hf, ha => by omega
  | f + 1, a, acc, hf, ha => by
    unfold dTagsGo
    cases k : isB l a false 59
    · rw [if_neg (by simp)]
      unfold GG E2 gf2
      rw [k, if_neg (by simp), if_neg (by simp)]
    · have hk := isB_lt k
      rw [if_pos rfl]
      have e : E2 l a = VD l .g0 (a + 1) := by unfold E2 gf2; rw [k, if_pos rfl]
      rw [e]
      have hle := dTagS_le (l := l) (a := a + 1) false (by omega)
      exact GG.bind (F := fun p no => (dTagsGo l f p no (acc ++ [(dTagS l (a + 1) false).1])).2) gs_dtag (dTagsGo_no _ _ _) (fun _ => gs_dtags f _ _ (by omega) hle.2)
theorem gs_ddec {a : Nat} : GG (VD l .d0 a) (decS l a false) (E1 l 32 .w0) := by
  refine gg_dec (dN := .dN) (di := .di) (dp := .dp) (df := .df) rfl rfl (fun c => rfl) (fun c => rfl) (fun c h => ?_) rfl rfl (fun c => rfl) (fun c h => ?_) (fun p hp => ?_) (fun p hp => ?_)
  · show (if digB c = true then _ else _) = _
    rw [if_pos h]
  · show (if digB c = true then _ else _) = _
    rw [if_pos h]
  · refine gf1_of rfl (fun hl => ?_)
    show (if digB _ = true then _ else if _ = 46 then _ else _) = _
    rw [if_neg (by rw [(hp hl).1]; simp), if_neg (hp hl).2]
  · refine gf1_of rfl (fun hl => ?_)
    show (if digB _ = true then _ else _) = _
    rw [if_neg (by rw [hp hl]; simp)]
theorem num_noG (a : Nat) : numS l a true = (a, true) := by simp [numS]
theorem gs_time {a : Nat} : GG (VD l .w0 a) (numS l a false) (E1 l 10 .line) := by
  refine GG.then_ (gg_num (dN := .wN) (di := .wi) rfl rfl (fun c => rfl) (fun c => rfl) (fun c h => ?_)) (fun _ => ?_)
  · show (if digB c = true then _ else _) = _
    rw [if_pos h]
  · refine gf1_of rfl (fun hl => ?_)
    show (if digB _ = true then _ else _) = _
    rw [if_neg (by rw [num_stopG hl]; simp)]
/-- A line. -/
theorem gs_dline {a : Nat} (ha : a < l.length) : GG (VD l .line a) (dotLineS l a).2 (VD l .line) := by
  have h1 := gs_path (l := l) ha
  have l1 := dPathS_le (l := l) (a := a) (by omega)
  unfold dotLineS
  simp only
  generalize dPathS l a = n at h1 l1 ⊢
  have h2 := GG.bind (F := fun p no => (dTagsGo l (l.length + 1) p no []).2) h1 (dTagsGo_no _ _ _) (fun _ => gs_dtags (l.length + 1) _ [] (by omega) l1.2)
  have l2 := dTagsGo_le (l := l) (l.length + 1) n.1 n.2 [] l1.2
  try simp only at h2
  generalize dTagsGo l (l.length + 1) n.1 n.2 [] = t at h2 l2 ⊢
  have h3 := GG.bind (F := fun p no => wordS l [32] p no) h2 (word_no _ _ _) (fun _ => gg_word1 32 DQ.d0 _)
  try simp only at h3
  generalize wordS l [32] t.2.1 t.2.2 = w at h3 ⊢
  have h4 := GG.bind (F := fun p no => decS l p no) h3 (dec_noG _) (fun _ => gs_ddec)
  try simp only at h4
  generalize decS l w.1 w.2 = d at h4 ⊢
  have h5 := GG.bind (F := fun p no => wordS l [32] p no) h4 (word_no _ _ _) (fun _ => gg_word1 32 DQ.w0 _)
  try simp only at h5
  generalize wordS l [32] d.1 d.2 = u at h5 ⊢
  have h6 := GG.bind (F := fun p no => numS l p no) h5 (num_noG _) (fun _ => gs_time)
  try simp only at h6
  generalize numS l u.1 u.2 = k at h6 ⊢
  exact GG.bind (F := fun p no => wordS l [10] p no) h6 (word_no _ _ _) (fun _ => gg_word1 10 DQ.line _)
theorem dword1_lt {c : UInt8} {a : Nat} {no : Bool} (h : (wordS l [c] a no).2 = false) : (wordS l [c] a no).1 = a + 1 := by
  cases no
  · rw [word1] at h ⊢
    split at h
    · rename_i hi; rw [if_pos hi]
    · cases h
  · rw [word_no] at h; cases h
theorem dotLine_lt {a : Nat} (ha : a < l.length) (h : (dotLineS l a).2.2 = false) : a < (dotLineS l a).2.1 := by
  unfold dotLineS at h ⊢
  simp only at h ⊢
  have h1 := dPathS_le (l := l) (a := a) (by omega)
  generalize dPathS l a = n at h h1 ⊢
  have h2 := dTagsGo_le (l := l) (l.length + 1) n.1 n.2 [] h1.2
  generalize dTagsGo l (l.length + 1) n.1 n.2 [] = t at h h2 ⊢
  have h3 := wordS_le l [32] t.2.1 t.2.2 h2.2
  generalize wordS l [32] t.2.1 t.2.2 = w at h h3 ⊢
  have h4 := decS_le l w.1 w.2 h3.2
  generalize decS l w.1 w.2 = d at h h4 ⊢
  have h5 := wordS_le l [32] d.1 d.2 h4.2
  generalize wordS l [32] d.1 d.2 = u at h h5 ⊢
  have h6 := numS_le l u.1 u.2 h5.2
  generalize numS l u.1 u.2 = k at h h6 ⊢
  rw [dword1_lt h]; omega
theorem vd_drows : ∀ f a acc, l.length < f + a → a ≤ l.length → VD l .line a = if (rowsGo dotLineS l f a acc).2.2 = true then ((rowsGo dotLineS l f a acc).2.1 : Int) else -1
  | 0, a, acc, hf, hl => by omega
  | f + 1, a, acc, hf, hl => by
    unfold rowsGo
    by_cases h1 : l.length ≤ a
    · rw [if_pos h1]
      simp only [Bool.false_eq_true, if_false]
      exact vd_acc h1 rfl
    · rw [if_neg h1]
      have hv := gs_dline (l := l) (a := a) (by omega)
      have hle := dotLineS_le (l := l) (a := a) hl
      have hlt := dotLine_lt (l := l) (a := a) (by omega)
      unfold GG at hv
      cases hn : (dotLineS l a).2.2
      · rw [hn, if_neg (by simp)] at hv
        simp only [Bool.false_eq_true, if_false]
        rw [hv]
        have := hlt hn
        exact vd_drows f _ _ (by omega) hle.2
      · rw [hn, if_pos rfl] at hv
        simp only [if_true]
        exact hv
theorem dotBad_eq (l : List UInt8) : dotBad l = vdGo stD acD .line l 0 := by
  unfold dotBad dotRows
  rw [← vd_drows (l.length + 1) 0 [] (by omega) (by omega)]
  rfl
theorem dotBad_bd (l : List UInt8) : -1 ≤ dotBad l ∧ dotBad l ≤ l.length := by
  rw [dotBad_eq]
  have := vdGo_bd (st := stD) (ac := acD) l DQ.line 0
  omega
theorem dotBad_far {l : List UInt8} {k : Nat} (h : dotBad l = (k : Int)) (hk : k < l.length) (e : List UInt8) : dotBad (l.take (k + 1) ++ e) = k := by
  rw [dotBad_eq] at h ⊢
  exact vdGo_far l DQ.line 0 k h (by omega) e
theorem dotBad_pre {l : List UInt8} {k : Nat} (h : dotBad l = (k : Int)) : dotBad (l.take k) = k ∨ dotBad (l.take k) = -1 := by
  rw [dotBad_eq] at h ⊢
  exact vdGo_pre l DQ.line k h
theorem dotBad_twice {l : List UInt8} (h : dotBad l = -1) : dotBad (l ++ l) = -1 := by
  rw [dotBad_eq] at h ⊢
  obtain ⟨q, hq, ht⟩ := vdGo_app l DQ.line h
  have : q = DQ.line := by cases q <;> simp [acD] at hq ⊢
  subst this
  rw [ht l]
  exact vdGo_neg l _ _ _ h
/-- The end that is looked for, from where. -/
def endsD : List (List UInt8) := [[97, 46, 97, 59, 97, 61, 97, 32, 49, 46, 49, 32, 49, 10]]
def closeD : DQ → Nat
  | .line => 0 | .np => 0 | .nd => 1 | .g0 => 4 | .g => 5 | .x0 => 6 | .x => 7 | .d0 => 8 | .dN => 8 | .di => 9 | .dp => 10 | .df => 11 | .w0 => 12 | .wN => 12 | .wi => 13
theorem closeD_ok (q : DQ) : closeD q ≤ (endsD.getD 0 []).length ∧ vdGo stD acD q ((endsD.getD 0 []).drop (closeD q)) 0 = -1 := by
  cases q
  all_goals exact ⟨by decide, by decide +kernel⟩
theorem dot_closes {l : List UInt8} {k : Nat} (hk : k ≤ l.length) (h : dotBad l = -1 ∨ (k : Int) ≤ dotBad l) : ∃ r i j, r < 9 ∧ i < 1 ∧ j ≤ (endsD.getD i []).length ∧ dotBad (l.take k ++ (restU.getD r [] ++ (endsD.getD i []).drop j)) = -1 := by
  rw [dotBad_eq] at h
  obtain ⟨q, hq, _⟩ := vdGo_reach (st := stD) (ac := acD) k l DQ.line 0 hk (by simpa using h)
  obtain ⟨h2, h3⟩ := closeD_ok q
  refine ⟨0, 0, _, by decide, by decide, h2, ?_⟩
  rw [dotBad_eq, hq]
  exact vdGo_neg _ _ _ _ h3
end
end
end Go.Proofs.YtoplengednoldaaGreatDoor
