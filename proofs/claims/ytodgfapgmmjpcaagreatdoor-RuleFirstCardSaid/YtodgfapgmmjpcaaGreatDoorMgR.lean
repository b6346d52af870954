/- A slice of labels that came in. Rules that came in: one by value, a slice of them. A rule's own text is compiled as that rule (no program in sight). A path that a rule took apart is put together again (no program in sight). The walks of label.Compare, of slices.CompareFunc and cmp.Or at labels, of the reference's CompareLabels. The walks of polyglothelp's SameTexts, SameRule over the same texts. The walk of polyglothelp's RuleText: a rule's own text. The walk of the reference's Bad, at a label of Dots: whether a text has a byte that is no node's. The walks of polyglotlaw23's fair and RuleFirst. The walk of RuleTexts: a rule's own text is compiled as that rule. -/
import Derived.Test.YtodgfapgmmjpcaaGreatDoorRows
import Derived.Test.YtodgfapgmmjpcaaGreatDoorOpen
import Derived.Test.YtodgfapgmmjpcaaGreatDoorLabDef
import Derived.Test.YtodgfapgmmjpcaaGreatDoorTplD
import Derived.Test.YtodgfapgmmjpcaaGreatDoorOpenStr
import Derived.WideShapes
import Derived.Test.YtodgfapgmmjpcaaGreatDoorTplDfa
import Derived.Test.YtodgfapgmmjpcaaGreatDoorTplSplit
import Derived.Test.YtodgfapgmmjpcaaGreatDoorLabB
import Derived.Test.YtodgfapgmmjpcaaGreatDoorQuiet2
import Derived.Deep.RegionHeld3
import Derived.Deep.DrawnRows
import Derived.WalkLawsBesides
import Derived.Test.YtodgfapgmmjpcaaGreatDoorTplC
import Derived.Test.YtodgfapgmmjpcaaGreatDoorClsDef
import Derived.Test.YtodgfapgmmjpcaaGreatDoorProg
import Derived.Test.YtodgfapgmmjpcaaGreatDoorAux2
import Derived.IntWalk
import Derived.Test.YtodgfapgmmjpcaaGreatDoorK23
namespace Go.Proofs.YtodgfapgmmjpcaaGreatDoor
set_option linter.unusedVariables false
set_option linter.unusedSimpArgs false
open Go.RowKit
section
theorem Tryz.cellsOfLab : Tryz.prog.cellsOf 33 = 2 := by kernel_rfl
theorem Tryz.cellsOfStr1 : Tryz.prog.cellsOf 9 = 1 := by kernel_rfl
/-- A slice of labels that came in. -/
def IsLabels (w : World) (A : Option Addr) (len cap : Nat) (xs : List Lab) : Prop := IsRows labCell 2 w w.heap.size A len xs ∧ (∀ x ∈ xs, x.1.size ≤ maxLen ∧ x.2.size ≤ maxLen) ∧ len ≤ cap ∧ cap ≤ maxLen
section
variable {H : Type} {enc : TypeId × Value → H} {w : World} {base : Nat} {spare : Nat → Bool} {held : Bool}
set_option maxRecDepth 100000 in
theorem open_lab {n : Nat} {cs : List Value} {x : DataW H × List MemPlace} (h : DataW.trod enc Tryz.prog w base spare held n 33 cs = some x) : ∃ y : Lab, cs = labCell y ∧ y.1.size ≤ maxLen ∧ y.2.size ≤ maxLen := by
  obtain ⟨xs, m, _, _, hl, hlen, hf⟩ := DataW.trod_struct Tryz.underlying33 h
  rw [Tryz.cellsOfLab] at hl
  match cs, hl with
  | [a, b], _ =>
    match xs, hlen with
    | [x0, x1], _ =>
      have h0 := hf 0 _ rfl
      have h1 := hf 1 _ rfl
      simp [Tryz.cellsOfStr1] at h0 h1
      obtain ⟨o, e0, _, s0⟩ := DataW.trod_string Tryz.underlying9 h0
      obtain ⟨l, e1, _, s1⟩ := DataW.trod_string Tryz.underlying9 h1
      simp only [List.cons.injEq, and_true] at e0 e1
      exact ⟨(o, l), by rw [e0, e1]; rfl, s0, s1⟩
end
theorem open_isLabels {H : Type} {enc : TypeId × Value → H} {w : World} {base : Nat} {spare : Nat → Bool} {held : Bool} {A : Option Addr} {len cap : Nat} {d : DataW H} {ps : List MemPlace}
    (h : DataW.Trod enc Tryz.prog w base spare held 23 (.slice A len cap) d ps) : ∃ xs, IsLabels w A len cap xs := by
  obtain ⟨fuel, hf⟩ := h
  obtain ⟨xs, h1, h4, h2, h3⟩ := open_isRows labCell (fun x => x.1.size ≤ maxLen ∧ x.2.size ≤ maxLen) 2 Tryz.cellsOfLab (by omega) Tryz.underlying23 (fun n cs x hx => open_lab hx) ⟨fuel, hf⟩
  exact ⟨xs, h1, h4, h2, h3⟩
end
section
theorem Tryz.cellsOfRule : Tryz.prog.cellsOf 25 = 3 := by kernel_rfl
theorem Tryz.cellsOfSS : Tryz.prog.cellsOf 22 = 1 := by kernel_rfl
theorem Tryz.cellsOfLL : Tryz.prog.cellsOf 23 = 1 := by kernel_rfl
/-- The sizes in a rule that came in. -/
structure RuleIn (r : MRule) : Prop where
  f : ∀ x ∈ r.filter, x.size ≤ maxLen
  p : ∀ x ∈ r.parts, x.size ≤ maxLen
  e : ∀ x ∈ r.extra, x.1.size ≤ maxLen ∧ x.2.size ≤ maxLen
theorem RuleIn.ok {r : MRule} (h : RuleIn r) (h1 : r.filter.length ≤ 2097152) (h2 : r.parts.length ≤ 2097152) (h3 : r.extra.length ≤ 2097152) : RuleOk r :=
  ⟨⟨h1, h.f⟩, ⟨h2, h.p⟩, ⟨h3, h.e⟩⟩
/-- A rule that lies there. -/
structure RuleHere (w : World) (y : VRule) : Prop where
  a : RuleAt w w.heap.size y
  i : RuleIn y.rule
  f : y.rule.filter.length ≤ maxLen
  p : y.rule.parts.length ≤ maxLen
  e : y.rule.extra.length ≤ maxLen
section
variable {H : Type} {enc : TypeId × Value → H} {P : Program} {w : World} {base : Nat} {spare : Nat → Bool} {held : Bool}
theorem slice_form {t e : TypeId} {fuel : Nat} {cs : List Value} {x : DataW H × List MemPlace} (ht : P.underlying t = some (.slice e)) (h : DataW.trod enc P w base spare held fuel t cs = some x) : ∃ A len cap, cs = [.slice A len cap] := by
  rcases Go.Deep.open_slice ht h with ⟨hcs, _⟩ | ⟨a, l, c, m, n, D, Pl, hcs, _⟩
  · exact ⟨_, _, _, hcs⟩
  · exact ⟨_, _, _, hcs⟩
end
section
variable {H : Type} {enc : TypeId × Value → H} {w : World} {base : Nat} {spare : Nat → Bool} {held : Bool}
set_option maxRecDepth 100000 in
theorem strs_in {n : Nat} {c : Value} {x : DataW H × List MemPlace} (h : DataW.trod enc Tryz.prog w base spare held n 22 [c] = some x) :
    ∃ A cap xs, c = .slice A xs.length cap ∧ IsRows strCell 1 w w.heap.size A xs.length xs ∧ (∀ x ∈ xs, x.size ≤ maxLen) ∧ xs.length ≤ maxLen := by
  obtain ⟨A, len, cap, hc⟩ := slice_form Tryz.underlying22 h
  obtain rfl : c = .slice A len cap := by simpa using hc
  obtain ⟨xs, h1, h4, h2, h3⟩ := open_isRows strCell (fun x => x.size ≤ maxLen) 1 Tryz.cellsOfStr (by omega) Tryz.underlying22 (fun n cs x hx => by
    obtain ⟨y, e, _, hy⟩ := DataW.trod_string Tryz.underlying9 hx
    exact ⟨y, e, hy⟩) (A := A) (len := len) (cap := cap) ⟨n, by simpa [Value.cells] using h⟩
  obtain rfl : xs.length = len := h1.1
  exact ⟨A, cap, xs, rfl, h1, h4, Nat.le_trans h2 h3⟩
set_option maxRecDepth 100000 in
theorem labs_in {n : Nat} {c : Value} {x : DataW H × List MemPlace} (h : DataW.trod enc Tryz.prog w base spare held n 23 [c] = some x) :
    ∃ A cap xs, c = .slice A xs.length cap ∧ IsRows labCell 2 w w.heap.size A xs.length xs ∧ (∀ x ∈ xs, x.1.size ≤ maxLen ∧ x.2.size ≤ maxLen) ∧ xs.length ≤ maxLen := by
  obtain ⟨A, len, cap, hc⟩ := slice_form Tryz.underlying23 h
  obtain rfl : c = .slice A len cap := by simpa using hc
  obtain ⟨xs, h1, h4, h2, h3⟩ := open_isRows labCell (fun x => x.1.size ≤ maxLen ∧ x.2.size ≤ maxLen) 2 Tryz.cellsOfLab (by omega) Tryz.underlying23 (fun n cs x hx => open_lab hx) (A := A) (len := len) (cap := cap) ⟨n, by simpa [Value.cells] using h⟩
  obtain rfl : xs.length = len := h1.1
  exact ⟨A, cap, xs, rfl, h1, h4, Nat.le_trans h2 h3⟩
set_option maxRecDepth 100000 in
theorem rule_cells {n : Nat} {cs : List Value} {x : DataW H × List MemPlace} (h : DataW.trod enc Tryz.prog w base spare held n 25 cs = some x) :
    ∃ y : VRule, cs = ruleCell y ∧ RuleHere w y := by
  obtain ⟨ys, n', hn', hy, hlen, hyl, hf⟩ := DataW.trod_struct Tryz.underlying25 h
  rw [Tryz.cellsOfRule] at hlen
  match cs, hlen with
  | [c0, c1, c2], _ =>
    match ys, hyl with
    | [y0, y1, y2], _ =>
      have h0 := hf 0 _ rfl
      have h1 := hf 1 _ rfl
      have h2 := hf 2 _ rfl
      simp [Tryz.cellsOfSS, Tryz.cellsOfLL] at h0 h1 h2
      obtain ⟨fA, fC, fs, rfl, f1, f2, f3⟩ := strs_in h0
      obtain ⟨pA, pC, ps, rfl, p1, p2, p3⟩ := strs_in h1
      obtain ⟨eA, eC, es, rfl, e1, e2, e3⟩ := labs_in h2
      exact ⟨⟨⟨fs, ps, es⟩, fA, fC, pA, pC, eA, eC⟩, rfl, ⟨f1, p1, e1⟩, ⟨f2, p2, e2⟩, f3, p3, e3⟩
set_option maxRecDepth 100000 in
/-- A rule by value. -/
theorem open_rule {r : Reach} {b0 : Nat} {v : Value} {d : DataW H} {p : List MemPlace} (hv : Value.okWide Tryz.prog w r b0 25 v) (h : DataW.Trod enc Tryz.prog w base spare held 25 v d p) :
    ∃ y : VRule, v = .agg #[.slice y.fA y.rule.filter.length y.fC, .slice y.pA y.rule.parts.length y.pC, .slice y.eA y.rule.extra.length y.eC] ∧ RuleHere w y := by
  obtain ⟨cs, rfl, hsz⟩ := Go.WideShapes.okWide_struct Tryz.underlying25 hv
  obtain ⟨fuel, hf⟩ := h
  obtain ⟨y, e, hy⟩ := rule_cells hf
  refine ⟨y, ?_, hy⟩
  congr 1
  exact Array.toList_inj.1 (by simpa [Value.cells, ruleCell] using e)
/-- A slice of rules that came in. -/
def IsRules (w : World) (A : Option Addr) (len cap : Nat) (xs : List VRule) : Prop := IsRows ruleCell 3 w w.heap.size A len xs ∧ (∀ x ∈ xs, RuleHere w x) ∧ len ≤ cap ∧ cap ≤ maxLen
set_option maxRecDepth 100000 in
theorem open_isRules {A : Option Addr} {len cap : Nat} {d : DataW H} {ps : List MemPlace}
    (h : DataW.Trod enc Tryz.prog w base spare held 28 (.slice A len cap) d ps) : ∃ xs, IsRules w A len cap xs := by
  obtain ⟨fuel, hf⟩ := h
  haveI : Inhabited VRule := ⟨⟨⟨[], [], []⟩, none, 0, none, 0, none, 0⟩⟩
  obtain ⟨xs, h1, h4, h2, h3⟩ := open_isRows ruleCell (RuleHere w) 3 Tryz.cellsOfRule (by omega) Tryz.underlying28 (fun n cs x hx => rule_cells hx) ⟨fuel, hf⟩
  exact ⟨xs, h1, h4, h2, h3⟩
end
end
section
/-- Texts one behind the other, a sign between. -/
def sepL (c : UInt8) : List (List UInt8) → List UInt8
  | [] => []
  | [x] => x
  | x :: y :: r => x ++ c :: sepL c (y :: r)
def byL (x : ByteArray) : List UInt8 := x.data.toList
def txtF (fs : List ByteArray) : List UInt8 := if fs = [] then [35] else sepL 46 (fs.map byL)
def labTxt (x : Lab) : List UInt8 := nmL x ++ 61 :: vlL x
def txtE (es : List Lab) : List UInt8 := if es = [] then [] else 32 :: sepL 44 (es.map labTxt)
def txtR (r : MRule) : List UInt8 := txtF r.filter ++ (32 :: sepL 46 (r.parts.map byL) ++ txtE r.extra)
section
variable {l : List UInt8}
theorem isB_drop {a : Nat} {x : UInt8} {u : List UInt8} (h : l.drop a = x :: u) (c : Int) : isB l a false c = decide ((x.toNat : Int) = c) := by
  have ha : a < l.length := by
    rcases Nat.lt_or_ge a l.length with h' | h'
    · exact h'
    · rw [List.drop_of_length_le h'] at h; cases h
  have hx : l[a] = x := by
    rw [List.drop_eq_getElem_cons ha] at h
    injection h
  unfold isB pkB
  rw [bt_get ha, hx]
  simp [ha]
  rfl
theorem isB_nil {a : Nat} (h : l.drop a = []) (c : Int) : isB l a false c = false := by
  have ha : l.length ≤ a := List.drop_eq_nil_iff.1 h
  unfold isB
  rw [pkB_end ha]; rfl
theorem drop_next {a : Nat} {x : UInt8} {u : List UInt8} (h : l.drop a = x :: u) : l.drop (a + 1) = u := by
  rw [← List.drop_drop, h]; rfl
theorem drop_word {a : Nat} {w u : List UInt8} (h : l.drop a = w ++ u) : l.drop (a + w.length) = u := by
  rw [← List.drop_drop, h]; simp
theorem cut_word {a : Nat} {w u : List UInt8} (h : l.drop a = w ++ u) : cutL l a (a + w.length) = w := by
  unfold cutL
  rw [h, Nat.add_sub_cancel_left]; simp
/-- A sign that is of no class ends a word. -/
def Stops (p : Int → Bool) (u : List UInt8) : Prop := ∀ c v, u = c :: v → p c.toNat = false
theorem takeW_stop {p : Int → Bool} {u : List UInt8} (h : Stops p u) : (u.takeWhile fun c => p c.toNat) = [] := by
  cases u with
  | nil => rfl
  | cons c v => rw [List.takeWhile_cons, if_neg (by rw [h c v rfl]; simp)]
theorem wh_word {p : Int → Bool} {a : Nat} {w u : List UInt8} (h : l.drop a = w ++ u) (hw : (w.all fun c => p c.toNat) = true) (hu : Stops p u) : whA l p a = a + w.length := by
  unfold whA
  rw [h, List.takeWhile_append_of_pos (by rw [List.all_eq_true] at hw; exact hw), takeW_stop hu, List.append_nil]
theorem inks_parts {p : Int → Bool} {w : List UInt8} (h : inksB p w = true) : (w.all fun c => p c.toNat) = true ∧ ∃ c v, w = c :: v ∧ p c.toNat = true := by
  unfold inksB at h
  rw [Bool.and_eq_true, Bool.not_eq_true'] at h
  refine ⟨h.1, ?_⟩
  cases w with
  | nil => exact absurd h.2 (by simp)
  | cons c v =>
    have := List.all_eq_true.1 h.1 c (by simp)
    exact ⟨c, v, rfl, this⟩
theorem some_word {p : Int → Bool} {a : Nat} {w u : List UInt8} (h : l.drop a = w ++ u) (hw : inksB p w = true) (hu : Stops p u) : someS l p a false = (a + w.length, false) := by
  obtain ⟨h1, c, v, rfl, _⟩ := inks_parts hw
  unfold someS
  rw [wh_word h h1 hu, if_neg (by simp)]
  simp
theorem isB_stop {a : Nat} {u : List UInt8} (h : l.drop a = u) (c : Int) (hu : ∀ x v, u = x :: v → (x.toNat : Int) ≠ c) : isB l a false c = false := by
  cases u with
  | nil => exact isB_nil h c
  | cons x v => rw [isB_drop h]; exact decide_eq_false (hu x v rfl)
/-- What may stand behind a text: nothing, a space, a ;. -/
def EndT (u : List UInt8) : Prop := ∀ x v, u = x :: v → x = 32 ∨ x = 59
theorem EndT.no {u : List UInt8} (h : EndT u) (c : Int) (h1 : c ≠ 32) (h2 : c ≠ 59) : ∀ x v, u = x :: v → (x.toNat : Int) ≠ c := by
  intro x v e
  rcases h x v e with rfl | rfl
  · intro k; exact h1 k.symm
  · intro k; exact h2 k.symm
theorem EndT.node {u : List UInt8} (h : EndT u) : Stops dtNode u := by
  intro x v e
  rcases h x v e with rfl | rfl <;> decide
theorem stops_cons {p : Int → Bool} {c : UInt8} {u : List UInt8} (h : p c.toNat = false) : Stops p (c :: u) := by
  intro x v e
  injection e with e _
  rw [← e]; exact h
theorem sep_one (c : UInt8) (x : List UInt8) : sepL c [x] = x := rfl
theorem sep_two (c : UInt8) (x y : List UInt8) (r : List (List UInt8)) : sepL c (x :: y :: r) = x ++ c :: sepL c (y :: r) := rfl
theorem isE_eq {x : ByteArray} (h : isE x = true) : x = wEvery := by
  unfold isE at h
  have := beq_iff_eq.1 h
  rw [← mkS_data x, this]; rfl
theorem isT_eq {x : ByteArray} (h : isT x = true) : x = wTail := by
  unfold isT at h
  have := beq_iff_eq.1 h
  rw [← mkS_data x, this]; rfl
theorem node_ne {w : List UInt8} (h : inksB dtNode w = true) (d : Int) (hd : dtNode d = false) : ∃ x v, w = x :: v ∧ decide ((x.toNat : Int) = d) = false := by
  obtain ⟨_, c, v, rfl, hc⟩ := inks_parts h
  exact ⟨c, v, rfl, decide_eq_false (fun e => by rw [e, hd] at hc; cases hc)⟩
theorem textB_inks {x : ByteArray} (h : textB x = true) : inksB dtNode (byL x) = true := by
  unfold textB at h
  rw [Bool.and_eq_true] at h
  exact h.1
theorem wrongF_no {x : ByteArray} (h : wrongF x = false) : isE x = true ∨ inksB dtNode (byL x) = true := by
  unfold wrongF at h
  cases hE : isE x
  · rw [hE] at h
    right
    exact textB_inks (by simpa using h)
  · exact .inl rfl
theorem fltGo_text : ∀ (fs : List ByteArray) (f a : Nat) (acc : List ByteArray) (u : List UInt8), fs ≠ [] → fs.length ≤ f → (∀ x ∈ fs, wrongF x = false) → l.drop a = sepL 46 (fs.map byL) ++ u → EndT u →
    fltGo l f a false acc = (acc ++ fs, a + (sepL 46 (fs.map byL)).length, false)
  | [], f, a, acc, u, h, _, _, _, _ => absurd rfl h
  | x :: r, 0, a, acc, u, _, hf, _, _, _ => absurd hf (by simp)
  | [x], f + 1, a, acc, u, _, _, hw, hd, hu => by
    simp only [List.map_cons, List.map_nil, sep_one] at hd ⊢
    unfold fltGo
    rw [if_neg (by simp)]
    rcases wrongF_no (hw x (by simp)) with hE | hN
    · obtain rfl := isE_eq hE
      have hd' : l.drop a = 42 :: u := hd
      rw [if_pos (by rw [isB_drop hd']; rfl), if_neg (by rw [isB_stop (drop_next hd') _ (hu.no _ (by decide) (by decide))]; simp)]
      rfl
    · obtain ⟨c, v, hv, hc⟩ := node_ne hN 42 (by decide)
      have hd' : l.drop a = c :: (v ++ u) := by rw [hd, hv]; rfl
      rw [if_neg (by rw [isB_drop hd', hc]; simp), some_word hd hN hu.node]
      simp only
      rw [if_neg (by rw [isB_stop (drop_word hd) _ (hu.no _ (by decide) (by decide))]; simp), cut_word hd]
      have e : mkS (byL x) = x := mkS_data x
      rw [e]
  | x :: y :: r, f + 1, a, acc, u, _, hf, hw, hd, hu => by
    simp only [List.map_cons, sep_two] at hd ⊢
    rw [List.append_assoc] at hd
    have ih := fun a' acc' h' => fltGo_text (y :: r) f a' acc' u (by simp) (by simp only [List.length_cons] at hf ⊢; omega) (fun z hz => hw z (List.mem_cons_of_mem _ hz)) h' hu
    simp only [List.map_cons] at ih
    unfold fltGo
    rw [if_neg (by simp)]
    have h2 : l.drop (a + (byL x).length) = 46 :: (sepL 46 (byL y :: r.map byL) ++ u) := drop_word hd
    rcases wrongF_no (hw x (by simp)) with hE | hN
    · obtain rfl := isE_eq hE
      have hd' : l.drop a = 42 :: (46 :: (sepL 46 (byL y :: r.map byL) ++ u)) := hd
      have h3 := drop_next (drop_next hd')
      rw [if_pos (by rw [isB_drop hd']; rfl), if_pos (by rw [isB_drop (drop_next hd')]; rfl), ih (a + 2) _ h3]
      refine Prod.ext (by simp) (Prod.ext ?_ rfl)
      simp only [List.length_append, List.length_cons]
      have : (byL wEvery).length = 1 := rfl
      omega
    · obtain ⟨c, v, hv, hc⟩ := node_ne hN 42 (by decide)
      have hd' : l.drop a = c :: (v ++ (46 :: sepL 46 (byL y :: r.map byL) ++ u)) := by rw [hd, hv]; rfl
      rw [if_neg (by rw [isB_drop hd', hc]; simp), some_word hd hN (stops_cons (by decide))]
      simp only
      rw [if_pos (by rw [isB_drop h2]; rfl), cut_word hd, ih _ _ (drop_next h2)]
      have e : mkS (byL x) = x := mkS_data x
      rw [e]
      refine Prod.ext (by simp) (Prod.ext ?_ rfl)
      simp only [List.length_append, List.length_cons]
      omega
/-! ### parts -/
theorem isM_data {x : ByteArray} (h : isM x = true) : byL x = [109, 101, 116, 114, 105, 99] := by
  unfold isM at h
  exact beq_iff_eq.1 h
theorem prtGo_text : ∀ (ps : List ByteArray) (f a : Nat) (acc : List ByteArray) (u : List UInt8), ps ≠ [] → ps.length ≤ f → (∀ x ∈ ps.dropLast, isT x = false) → (∀ x ∈ ps, isT x = true ∨ inksB dtNode (byL x) = true) → l.drop a = sepL 46 (ps.map byL) ++ u → EndT u →
    prtGo l f a false acc = (acc ++ ps, a + (sepL 46 (ps.map byL)).length, false)
  | [], f, a, acc, u, h, _, _, _, _, _ => absurd rfl h
  | x :: r, 0, a, acc, u, _, hf, _, _, _, _ => absurd hf (by simp)
  | [x], f + 1, a, acc, u, _, _, _, hw, hd, hu => by
    simp only [List.map_cons, List.map_nil, sep_one] at hd ⊢
    unfold prtGo
    rw [if_neg (by simp)]
    cases hT : isT x
    · have hN : inksB dtNode (byL x) = true := by
        rcases hw x (by simp) with h | h
        · rw [hT] at h; cases h
        · exact h
      rw [some_word hd hN hu.node]
      simp only
      rw [cut_word hd, isB_stop (drop_word hd) 42 (hu.no _ (by decide) (by decide)), isB_stop (drop_word hd) 46 (hu.no _ (by decide) (by decide)), Bool.and_false, if_neg (by simp), if_neg (by simp)]
      have e : mkS (byL x) = x := mkS_data x
      rw [e]
    · obtain rfl := isT_eq hT
      have hd' : l.drop a = [109, 101, 116, 114, 105, 99] ++ (42 :: u) := hd
      rw [some_word hd' (by decide) (stops_cons (by decide))]
      simp only
      rw [cut_word hd', isB_drop (drop_word hd'), if_pos (by decide)]
      rfl
  | x :: y :: r, f + 1, a, acc, u, _, hf, ht, hw, hd, hu => by
    simp only [List.map_cons, sep_two] at hd ⊢
    rw [List.append_assoc] at hd
    have ih := fun a' acc' h' => prtGo_text (y :: r) f a' acc' u (by simp) (by simp only [List.length_cons] at hf ⊢; omega) (fun z hz => ht z (by rw [List.dropLast_cons_cons]; exact List.mem_cons_of_mem _ hz)) (fun z hz => hw z (List.mem_cons_of_mem _ hz)) h' hu
    simp only [List.map_cons] at ih
    have hT : isT x = false := ht x (by rw [List.dropLast_cons_cons]; simp)
    have hN : inksB dtNode (byL x) = true := by
      rcases hw x (by simp) with h | h
      · rw [hT] at h; cases h
      · exact h
    have h2 : l.drop (a + (byL x).length) = 46 :: (sepL 46 (byL y :: r.map byL) ++ u) := drop_word hd
    unfold prtGo
    rw [if_neg (by simp), some_word hd hN (stops_cons (by decide))]
    simp only
    rw [cut_word hd, isB_drop h2, isB_drop h2, if_neg (by rw [Bool.and_eq_true]; rintro ⟨_, h⟩; exact absurd h (by decide)), if_pos (by decide), ih _ _ (drop_next h2)]
    have e : mkS (byL x) = x := mkS_data x
    rw [e]
    refine Prod.ext (by simp) (Prod.ext ?_ rfl)
    simp only [List.length_append, List.length_cons]
    omega
/-! ### labels -/
theorem word_one {a : Nat} {c : UInt8} {u : List UInt8} (h : l.drop a = c :: u) : wordS l [c] a false = (a + 1, false) := by
  unfold wordS
  rw [if_neg (by simp), if_pos (by rw [isB_drop h]; exact decide_eq_true rfl)]
  rfl
theorem labS_text {a : Nat} {x : Lab} {u : List UInt8} (hn : inksB dtNode (nmL x) = true) (hv : inksB tmInk (vlL x) = true) (hd : l.drop a = labTxt x ++ u) (hu : Stops tmInk u) : labS l a = (x, a + (labTxt x).length, false) := by
  unfold labTxt at hd ⊢
  rw [List.append_assoc] at hd
  have h1 := drop_word hd
  have h2 := drop_next h1
  unfold labS
  rw [some_word hd hn (stops_cons (by decide))]
  simp only
  rw [word_one h1]
  simp only
  rw [some_word h2 hv hu, cut_word hd]
  simp only
  rw [cut_word h2]
  refine Prod.ext (Prod.ext (mkS_data x.1) (mkS_data x.2)) (Prod.ext ?_ rfl)
  simp only [List.length_append, List.length_cons]
  omega
/-- What may stand behind labels: nothing, a ;. -/
def EndX (u : List UInt8) : Prop := ∀ x v, u = x :: v → x = 59
theorem EndX.t {u : List UInt8} (h : EndX u) : EndT u := fun x v e => .inr (h x v e)
theorem EndX.ink {u : List UInt8} (h : EndX u) : Stops tmInk u := by
  intro x v e
  obtain rfl := h x v e
  decide
theorem extGo_text : ∀ (es : List Lab) (f a : Nat) (acc : List Lab) (u : List UInt8), es ≠ [] → es.length ≤ f → (∀ x ∈ es, inksB dtNode (nmL x) = true ∧ inksB tmInk (vlL x) = true) → l.drop a = sepL 44 (es.map labTxt) ++ u → EndX u →
    extGo l f a false acc = (acc ++ es, a + (sepL 44 (es.map labTxt)).length, false)
  | [], f, a, acc, u, h, _, _, _, _ => absurd rfl h
  | x :: r, 0, a, acc, u, _, hf, _, _, _ => absurd hf (by simp)
  | [x], f + 1, a, acc, u, _, _, hw, hd, hu => by
    simp only [List.map_cons, List.map_nil, sep_one] at hd ⊢
    obtain ⟨hn, hv⟩ := hw x (by simp)
    unfold extGo
    rw [if_neg (by simp), labS_text hn hv hd hu.ink]
    simp only
    rw [if_neg (by rw [isB_stop (drop_word hd) _ (hu.t.no _ (by decide) (by decide))]; simp)]
  | x :: y :: r, f + 1, a, acc, u, _, hf, hw, hd, hu => by
    simp only [List.map_cons, sep_two] at hd ⊢
    rw [List.append_assoc] at hd
    have ih := fun a' acc' h' => extGo_text (y :: r) f a' acc' u (by simp) (by simp only [List.length_cons] at hf ⊢; omega) (fun z hz => hw z (List.mem_cons_of_mem _ hz)) h' hu
    simp only [List.map_cons] at ih
    obtain ⟨hn, hv⟩ := hw x (by simp)
    have h2 : l.drop (a + (labTxt x).length) = 44 :: (sepL 44 (labTxt y :: r.map labTxt) ++ u) := drop_word hd
    unfold extGo
    rw [if_neg (by simp), labS_text hn hv hd (stops_cons (by decide))]
    simp only
    rw [if_pos (by rw [isB_drop h2]; decide), ih _ _ (drop_next h2)]
    refine Prod.ext (by simp) (Prod.ext ?_ rfl)
    simp only [List.length_append, List.length_cons]
    omega
end
/-! ### a rule -/
theorem len_sep (c : UInt8) : ∀ xs : List (List UInt8), xs.length ≤ (sepL c xs).length + 1
  | [] => by simp
  | [x] => by simp
  | x :: y :: r => by
    have ih := len_sep c (y :: r)
    rw [sep_two]
    simp only [List.length_cons, List.length_append] at ih ⊢
    omega
structure GoodParts (r : MRule) : Prop where
  f : ∀ x ∈ r.filter, wrongF x = false
  p0 : r.parts ≠ []
  p1 : ∀ x ∈ r.parts.dropLast, isT x = false
  p2 : ∀ x ∈ r.parts, isT x = true ∨ inksB dtNode (byL x) = true
  e : ∀ x ∈ r.extra, inksB dtNode (nmL x) = true ∧ inksB tmInk (vlL x) = true
theorem good_parts {r : MRule} (h : goodR r = true) : GoodParts r := by
  unfold goodR partsB extraB at h
  simp only [Bool.and_eq_true, Bool.not_eq_true', decide_eq_true_eq] at h
  obtain ⟨_, _, hf, ⟨ht, hn, _, hl⟩, he, _⟩ := h
  refine ⟨fun x hx => by simpa using List.any_eq_false.1 hf x hx, ?_, ?_, ?_, ?_⟩
  · rintro e
    rw [e] at hn
    simp [namedB] at hn
  · intro x hx
    unfold tailOk at ht
    rw [Bool.not_eq_true'] at ht
    simpa using List.any_eq_false.1 ht x hx
  · intro x hx
    cases hT : isT x
    · right
      cases hM : isM x
      · cases hK : isK x
        · have hL : x ∈ lbsT r.parts := List.mem_filter.2 ⟨hx, by unfold isLb; rw [hM, hT, hK]; rfl⟩
          have := List.any_eq_false.1 hl x hL
          unfold wrongP at this
          simp only [Bool.or_eq_true, not_or, Bool.not_eq_true', Bool.not_eq_false] at this
          exact textB_inks this.1
        · unfold isK at hK
          have := beq_iff_eq.1 hK
          unfold byL; rw [this]; decide
      · rw [isM_data hM]; decide
    · exact .inl rfl
  · intro x hx
    obtain ⟨i, hi, rfl⟩ := List.getElem_of_mem hx
    unfold extraTo at he
    have := List.all_eq_true.1 he i (List.mem_range.2 hi)
    unfold extraAt at this
    simp only [Bool.and_eq_true] at this
    have e : r.extra.getD i default = r.extra[i] := by rw [List.getD_eq_getElem?_getD, List.getElem?_eq_getElem hi]; rfl
    rw [e] at this
    exact ⟨textB_inks this.2.1, this.2.2.1⟩
theorem compS_text {r : MRule} (hg : goodR r = true) (v : List UInt8) (hv : EndX v) : compS (txtR r ++ v) = (r, (txtR r).length, false) := by
  obtain ⟨hf, hp0, hp1, hp2, he⟩ := good_parts hg
  obtain ⟨fs, ps, es⟩ := r
  simp only at hf hp0 hp1 hp2 he
  obtain ⟨L, hL⟩ : ∃ L, txtR ⟨fs, ps, es⟩ ++ v = L := ⟨_, rfl⟩
  have hL0 : L = txtF fs ++ (32 :: (sepL 46 (ps.map byL) ++ (txtE es ++ v))) := by rw [← hL]; unfold txtR; simp
  have hlen : (txtR ⟨fs, ps, es⟩).length = (txtF fs).length + 1 + (sepL 46 (ps.map byL)).length + (txtE es).length := by unfold txtR; simp; omega
  have hLl : L.length = (txtF fs).length + 1 + (sepL 46 (ps.map byL)).length + (txtE es).length + v.length := by rw [hL0]; simp; omega
  rw [hL, hlen]
  have hflt : fltS L = (fs, (txtF fs).length, false) := by
    unfold fltS
    by_cases h0 : fs = []
    · subst h0
      have hd : L.drop 0 = 35 :: (32 :: (sepL 46 (ps.map byL) ++ (txtE es ++ v))) := by rw [hL0]; rfl
      rw [if_pos (by rw [isB_drop hd]; rfl)]; rfl
    · have ht : txtF fs = sepL 46 (fs.map byL) := if_neg h0
      have hd : L.drop 0 = sepL 46 (fs.map byL) ++ (32 :: (sepL 46 (ps.map byL) ++ (txtE es ++ v))) := by rw [hL0, ht]; rfl
      have hE : EndT (32 :: (sepL 46 (ps.map byL) ++ (txtE es ++ v))) := by
        intro x u e
        injection e with e _
        exact .inl e.symm
      have h35 : isB L 0 false 35 = false := by
        cases fs with
        | nil => exact absurd rfl h0
        | cons x r =>
          have hx : ∃ c w, byL x = c :: w ∧ decide ((c.toNat : Int) = 35) = false := by
            rcases wrongF_no (hf x (by simp)) with hE | hN
            · obtain rfl := isE_eq hE
              exact ⟨42, [], rfl, by decide⟩
            · exact node_ne hN 35 (by decide)
          obtain ⟨c, w, hc, hd35⟩ := hx
          have : ∃ t, sepL 46 ((x :: r).map byL) = c :: t := by
            cases r with
            | nil => exact ⟨w, hc⟩
            | cons y r => exact ⟨w ++ 46 :: sepL 46 ((y :: r).map byL), by rw [List.map_cons, List.map_cons, sep_two, hc]; rfl⟩
          obtain ⟨t, ht2⟩ := this
          rw [ht2] at hd
          rw [isB_drop (u := t ++ (32 :: (sepL 46 (ps.map byL) ++ (txtE es ++ v)))) hd, hd35]
      rw [h35, if_neg (by simp), fltGo_text fs (L.length + 1) 0 [] _ h0 (by
        have := len_sep 46 (fs.map byL)
        rw [List.length_map] at this
        rw [hLl, ht]; omega) hf hd hE, ht]
      simp
  have hd1 : L.drop (txtF fs).length = 32 :: (sepL 46 (ps.map byL) ++ (txtE es ++ v)) := by rw [hL0]; simp
  have hd2 := drop_next hd1
  have hEt : EndT (txtE es ++ v) := by
    unfold txtE
    split
    · exact hv.t
    · intro x u e
      injection e with e _
      exact .inl e.symm
  have hprt := prtGo_text ps (L.length + 1) _ [] _ hp0 (by
    have := len_sep 46 (ps.map byL)
    rw [List.length_map] at this
    rw [hLl]; omega) hp1 hp2 hd2 hEt
  have hd3 := drop_word hd2
  unfold compS
  rw [hflt]
  simp only
  rw [show ([32] : List UInt8) = [32] from rfl, word_one hd1]
  simp only
  rw [hprt]
  simp only [List.nil_append]
  by_cases h0 : es = []
  · subst h0
    have e0 : txtE [] = [] := rfl
    rw [e0, List.nil_append] at hd3
    rw [if_neg (by rw [isB_stop hd3 _ (fun x u e => by rw [hv x u e]; decide)]; simp), e0]
    rfl
  · have ht : txtE es = 32 :: sepL 44 (es.map labTxt) := if_neg h0
    rw [ht] at hd3
    have hd4 : L.drop ((txtF fs).length + 1 + (sepL 46 (ps.map byL)).length) = 32 :: (sepL 44 (es.map labTxt) ++ v) := hd3
    rw [if_pos (by rw [isB_drop hd4]; rfl), extGo_text es (L.length + 1) _ [] v h0 (by
      have := len_sep 44 (es.map labTxt)
      rw [List.length_map] at this
      rw [hLl, ht]; simp only [List.length_cons]; omega) he (drop_next hd4) hv, ht]
    refine Prod.ext rfl (Prod.ext ?_ rfl)
    simp only [List.length_cons]; omega
theorem compT_text {r : MRule} (hg : goodR r = true) : compT (txtR r) = .ok r := by
  have h := compS_text hg [] (fun x u e => by cases e)
  rw [List.append_nil] at h
  unfold compT
  rw [h, if_neg (by simp), if_pos hg]
theorem compT_semi {r : MRule} (hg : goodR r = true) : compT (txtR r ++ [59]) = .error (11, (txtR r).length) := by
  have h := compS_text hg [59] (fun x u e => by injection e with e _; exact e.symm)
  unfold compT
  rw [h, if_pos (by simp)]
theorem compT_space (t : List UInt8) : compT (32 :: t) = .error (11, 0) := by
  have hd : (32 :: t).drop 0 = 32 :: t := rfl
  have e1 : fltS (32 :: t) = ([mkS []], 0, true) := by
    unfold fltS
    rw [if_neg (by rw [isB_drop hd]; decide)]
    rw [show (32 :: t).length + 1 = (t.length + 1) + 1 from rfl]
    unfold fltGo
    have hs : someS (32 :: t) dtNode 0 false = (0, true) := by
      unfold someS
      have : whA (32 :: t) dtNode 0 = 0 := whA_no (by simp) (by rw [show bt (32 :: t) 0 = 32 from rfl]; decide)
      rw [this, if_neg (by simp)]; rfl
    rw [if_neg (by simp), if_neg (by rw [isB_drop hd]; decide), hs]
    simp only
    rw [if_neg (by rw [isB_no]; simp), cut_same]
    rfl
  have e2 : compS (32 :: t) = (⟨[mkS []], [], []⟩, 0, true) := by
    unfold compS
    rw [e1]
    simp only
    have : wordS (32 :: t) [32] 0 true = (0, true) := rfl
    rw [this]
    simp only
    have hp : prtGo (32 :: t) ((32 :: t).length + 1) 0 true [] = ([], 0, true) := by
      rw [show (32 :: t).length + 1 = (t.length + 1) + 1 from rfl]
      unfold prtGo
      rw [if_pos rfl]
    rw [hp]
    simp only
    rw [if_neg (by rw [isB_no]; simp)]
  unfold compT
  rw [e2]
  rfl
end
section
/-! ### what parts take of nodes -/
def nmOf : List ByteArray → List ByteArray → List ByteArray
  | [], _ => []
  | p :: ps, ns => if isM p then ns.headD default :: nmOf ps ns.tail else if isT p then ns ++ nmOf ps ns.tail else nmOf ps ns.tail
def lbOf : List ByteArray → List ByteArray → List Lab
  | [], _ => []
  | p :: ps, ns => if isLb p then (p, ns.headD default) :: lbOf ps ns.tail else lbOf ps ns.tail
theorem takeGo_of : ∀ (ps ns nm : List ByteArray) (lb : List Lab), takeGo ps ns nm lb = (nm ++ nmOf ps ns, lb ++ lbOf ps ns)
  | [], ns, nm, lb => by simp [takeGo, nmOf, lbOf]
  | p :: ps, ns, nm, lb => by
    rw [takeGo, nmOf, lbOf]
    unfold isLb
    cases hM : isM p
    · cases hT : isT p
      · cases hK : isK p
        · simp only [Bool.false_eq_true, if_false, Bool.not_false, Bool.and_self, if_true]
          rw [takeGo_of]; simp
        · simp only [Bool.false_eq_true, if_false, if_true, Bool.not_true, Bool.and_false]
          rw [takeGo_of]
      · simp only [Bool.false_eq_true, if_false, if_true, Bool.not_true, Bool.false_and, Bool.and_false]
        rw [takeGo_of]; simp
    · simp only [if_true, Bool.not_true, Bool.false_and, Bool.false_eq_true, if_false]
      rw [takeGo_of]; simp
theorem lbOf_names : ∀ ps ns : List ByteArray, (lbOf ps ns).map (·.1) = lbsT ps
  | [], ns => rfl
  | p :: ps, ns => by
    have ih := lbOf_names ps ns.tail
    rw [lbOf, lbsT, List.filter_cons]
    split
    · rename_i h
      rw [List.map_cons, ih]; rfl
    · exact ih
theorem lbOf_at : ∀ (ps ns : List ByteArray) (z : Lab), z ∈ lbOf ps ns → ∃ i, ps[i]? = some z.1 ∧ isLb z.1 = true ∧ ns.getD i default = z.2
  | [], ns, z, h => by simp [lbOf] at h
  | p :: ps, ns, z, h => by
    have ih := lbOf_at ps ns.tail z
    have key : z ∈ lbOf ps ns.tail → ∃ i, (p :: ps)[i]? = some z.1 ∧ isLb z.1 = true ∧ ns.getD i default = z.2 := fun h => by
      obtain ⟨i, h1, h2, h3⟩ := ih h
      refine ⟨i + 1, by simpa using h1, h2, ?_⟩
      cases ns with
      | nil => simpa using h3
      | cons y r => simpa using h3
    rw [lbOf] at h
    split at h
    · rename_i hq
      rcases List.mem_cons.1 h with rfl | h
      · refine ⟨0, rfl, hq, ?_⟩
        cases ns <;> rfl
      · exact key h
    · exact key h
theorem pathGo_K {L : List Lab} : ∀ (ps ns out : List ByteArray), (∃ x ∈ ps, isK x = true) → (pathGo L ps ns out).2 = false
  | [], ns, out, h => by obtain ⟨x, hx, _⟩ := h; simp at hx
  | p :: ps, ns, out, h => by
    rw [pathGo]
    cases hK : isK p
    · have h' : ∃ x ∈ ps, isK x = true := by
        obtain ⟨x, hx, hk⟩ := h
        rcases List.mem_cons.1 hx with rfl | hx
        · rw [hK] at hk; cases hk
        · exact ⟨x, hx, hk⟩
      rw [if_neg (by simp)]
      split
      · rfl
      split
      · exact pathGo_K ps _ _ h'
      split
      · exact pathGo_K ps _ _ h'
      split
      · rfl
      split
      · exact pathGo_K ps _ _ h'
      · rfl
    · rw [if_pos rfl]
theorem isM_notT {p : ByteArray} (h : isM p = true) : isT p = false := by
  have e := isM_data h
  unfold byL at e
  unfold isT
  rw [e]; rfl
theorem isM_notK {p : ByteArray} (h : isM p = true) : isK p = false := by
  have e := isM_data h
  unfold byL at e
  unfold isK
  rw [e]; rfl
theorem isT_notK {p : ByteArray} (h : isT p = true) : isK p = false := by
  obtain rfl := isT_eq h
  rfl
/-- Parts that take all nodes. -/
def endT (ps : List ByteArray) : Bool := isT (ps.getD (ps.length - 1) default)
theorem pathGo_of {L : List Lab} : ∀ (ps ns out : List ByteArray), ps.length ≤ ns.length → (ns.length = ps.length ∨ endT ps = true) → (∀ x ∈ ps.dropLast, isT x = false) → (∀ x ∈ ps, isK x = false) →
    (∀ z ∈ lbOf ps ns, ∃ x, getL L (nmL z) = some x ∧ x.2 = z.2 ∧ inksB dtNode (vlL x) = true) → pathGo L ps (nmOf ps ns) out = (out ++ ns, true)
  | [], ns, out, hl, he, _, _, _ => by
    have : ns = [] := by
      rcases he with h | h
      · exact List.length_eq_zero_iff.1 h
      · exact absurd h (by decide)
    subst this
    simp [nmOf, pathGo]
  | p :: ps, [], out, hl, _, _, _, _ => absurd hl (by simp)
  | [p], y :: ns, out, hl, he, ht, hk, hb => by
    have hK := hk p (by simp)
    rw [nmOf, pathGo, hK]
    simp only [List.headD_cons, List.tail_cons]
    cases hM : isM p
    · cases hT : isT p
      · have hn : ns = [] := by
          rcases he with h | h
          · exact List.length_eq_zero_iff.1 (by simpa using h)
          · unfold endT at h
            simp only [List.length_singleton] at h
            rw [show ([p] : List ByteArray).getD (1 - 1) default = p from rfl, hT] at h; cases h
        subst hn
        have hLb : isLb p = true := by unfold isLb; rw [hM, hT, hK]; rfl
        obtain ⟨x, h1, h2, h3⟩ := hb (p, y) (by rw [lbOf, if_pos hLb]; simp)
        have h1' : getL L p.data.toList = some x := h1
        simp only [Bool.false_eq_true, if_false, Bool.or_self, Bool.false_and]
        rw [h1']
        simp only
        rw [if_pos h3, h2]
        simp [nmOf, pathGo]
      · simp only [Bool.false_eq_true, if_false, if_true, Bool.or_true, Bool.true_and]
        rw [if_neg (by simp)]
        simp [nmOf, pathGo]
    · have hT := isM_notT hM
      have hn : ns = [] := by
        rcases he with h | h
        · exact List.length_eq_zero_iff.1 (by simpa using h)
        · unfold endT at h
          simp only [List.length_singleton] at h
          rw [show ([p] : List ByteArray).getD (1 - 1) default = p from rfl, hT] at h; cases h
      subst hn
      rw [hT]
      simp only [Bool.false_eq_true, if_false, if_true, Bool.or_false, Bool.true_and]
      rw [if_neg (by simp)]
      simp [nmOf, pathGo]
  | p :: q :: ps, y :: ns, out, hl, he, ht, hk, hb => by
    have hK := hk p (by simp)
    have hT : isT p = false := ht p (by rw [List.dropLast_cons_cons]; simp)
    have ih := fun out' (hb' : ∀ z ∈ lbOf (q :: ps) ns, ∃ x, getL L (nmL z) = some x ∧ x.2 = z.2 ∧ inksB dtNode (vlL x) = true) => pathGo_of (L := L) (q :: ps) ns out' (by simpa using hl) (by
      rcases he with h | h
      · left; simpa using h
      · right
        unfold endT at h ⊢
        simpa using h) (fun x hx => ht x (by rw [List.dropLast_cons_cons]; exact List.mem_cons_of_mem _ hx)) (fun x hx => hk x (List.mem_cons_of_mem _ hx)) hb'
    rw [nmOf, pathGo, hK, hT]
    simp only [List.headD_cons, List.tail_cons]
    cases hM : isM p
    · have hLb : isLb p = true := by unfold isLb; rw [hM, hT, hK]; rfl
      rw [lbOf, if_pos hLb] at hb
      obtain ⟨x, h1, h2, h3⟩ := hb (p, y) (by simp)
      have h1' : getL L p.data.toList = some x := h1
      simp only [Bool.false_eq_true, if_false, Bool.or_self, Bool.false_and]
      rw [h1']
      simp only
      rw [if_pos h3, h2, ih _ (fun z hz => hb z (by simpa using .inr hz))]
      simp
    · have hLb : isLb p = false := by unfold isLb; rw [hM]; rfl
      rw [lbOf, hLb, if_neg (by simp)] at hb
      simp only [Bool.false_eq_true, if_false, if_true, Bool.or_false, Bool.true_and]
      rw [if_neg (by simp)]
      simp only [List.headD_cons, List.tail_cons]
      rw [ih _ (fun z hz => hb z hz)]
      simp
/-! ### the name's nodes -/
theorem nmOf_mem : ∀ (ps ns : List ByteArray) (z : ByteArray), ps.length ≤ ns.length → z ∈ nmOf ps ns → z ∈ ns
  | [], ns, z, _, h => by simp [nmOf] at h
  | p :: ps, [], z, hl, _ => absurd hl (by simp)
  | p :: ps, y :: ns, z, hl, h => by
    have ih := nmOf_mem ps ns z (by simpa using hl)
    rw [nmOf] at h
    simp only [List.headD_cons, List.tail_cons] at h
    split at h
    · rcases List.mem_cons.1 h with rfl | h
      · simp
      · exact List.mem_cons_of_mem _ (ih h)
    split at h
    · rcases List.mem_append.1 h with h | h
      · exact h
      · exact List.mem_cons_of_mem _ (ih h)
    · exact List.mem_cons_of_mem _ (ih h)
theorem nmOf_sub : ∀ (ps ns : List ByteArray), ps.length ≤ ns.length → (∀ x ∈ ps.dropLast, isT x = false) → (nmOf ps ns).Sublist ns
  | [], ns, _, _ => by simp [nmOf]
  | p :: ps, [], hl, _ => absurd hl (by simp)
  | [p], y :: ns, _, _ => by
    rw [nmOf]
    simp only [List.headD_cons, List.tail_cons]
    split
    · simp [nmOf]
    split
    · simp [nmOf]
    · simp [nmOf]
  | p :: q :: ps, y :: ns, hl, ht => by
    have ih := nmOf_sub (q :: ps) ns (by simpa using hl) (fun x hx => ht x (by rw [List.dropLast_cons_cons]; exact List.mem_cons_of_mem _ hx))
    have hT : isT p = false := ht p (by rw [List.dropLast_cons_cons]; simp)
    rw [nmOf, hT]
    simp only [List.headD_cons, List.tail_cons]
    split
    · exact ih.cons_cons y
    · rw [if_neg (by simp)]; exact ih.cons y
theorem nmOf_some : ∀ (ps ns : List ByteArray), ps.length ≤ ns.length → namedB ps = true → nmOf ps ns ≠ []
  | [], ns, _, h => by simp [namedB] at h
  | p :: ps, [], hl, _ => absurd hl (by simp)
  | p :: ps, y :: ns, hl, h => by
    have ih := nmOf_some ps ns (by simpa using hl)
    rw [nmOf]
    simp only [List.headD_cons, List.tail_cons]
    split
    · simp
    split
    · simp
    · rename_i h1 h2
      refine ih ?_
      unfold namedB at h ⊢
      rw [List.any_cons] at h
      simpa [h1, h2] using h
theorem nodesL_nodot : ∀ (l x : List UInt8), x ∈ nodesL l → (46 : UInt8) ∉ x
  | [], x, h => by simp [nodesL] at h; subst h; simp
  | c :: cs, x, h => by
    rw [nodesL_cons] at h
    split at h
    · rcases List.mem_cons.1 h with rfl | h
      · simp
      · exact nodesL_nodot cs x h
    · rename_i hc
      split at h
      · simp at h; subst h
        simp only [List.mem_singleton]
        exact fun e => hc e.symm
      · rename_i y ys hy
        rcases List.mem_cons.1 h with rfl | h
        · have := nodesL_nodot cs y (by rw [hy]; simp)
          intro k
          rcases List.mem_cons.1 k with k | k
          · exact hc k.symm
          · exact this k
        · exact nodesL_nodot cs x (by rw [hy]; simp [h])
theorem nodesT_nodot {p x : ByteArray} (h : x ∈ nodesT p) : (46 : UInt8) ∉ byL x := by
  unfold nodesT at h
  obtain ⟨y, hy, rfl⟩ := List.mem_map.1 h
  exact nodesL_nodot _ y hy
theorem map_byL (xs : List ByteArray) : (xs.map byL).map mkS = xs := by
  rw [List.map_map]
  have : (mkS ∘ byL) = id := by funext x; exact mkS_data x
  rw [this, List.map_id]
theorem nodes_joinT {xs : List ByteArray} (h : xs ≠ []) (hx : ∀ x ∈ xs, (46 : UInt8) ∉ byL x) : nodesT (joinT xs) = xs := by
  unfold nodesT joinT
  show (nodesL (Lib.join (xs.map byL) [46])).map mkS = xs
  rw [nodes_join _ (by simpa using h) (fun y hy => by
    obtain ⟨z, hz, rfl⟩ := List.mem_map.1 hy
    exact hx z hz), map_byL]
theorem join_nodesT (p : ByteArray) : joinT (nodesT p) = p := by
  unfold joinT nodesT
  rw [List.map_map]
  have : ((fun x : ByteArray => x.data.toList) ∘ mkS) = id := by funext x; rfl
  rw [this, List.map_id, join_nodes]
  exact mkS_data p
/-! ### how long a name is -/
def lenS (xs : List (List UInt8)) : Nat := (xs.map fun x => x.length + 1).sum
theorem join_len : ∀ xs : List (List UInt8), xs ≠ [] → (Lib.join xs [46]).length + 1 = lenS xs
  | [], h => absurd rfl h
  | [x], _ => by rw [Lib.join_one]; simp [lenS]
  | x :: y :: r, _ => by
    have ih := join_len (y :: r) (by simp)
    rw [Lib.join_cons, dotTail, List.length_append, List.length_cons]
    unfold lenS at ih ⊢
    rw [List.map_cons, List.sum_cons, ← ih]
    omega
theorem lenS_sub {xs ys : List (List UInt8)} (h : xs.Sublist ys) : lenS xs ≤ lenS ys := by
  induction h with
  | slnil => exact Nat.le_refl _
  | cons a _ ih => unfold lenS at *; rw [List.map_cons, List.sum_cons]; omega
  | cons_cons a _ ih => unfold lenS at *; rw [List.map_cons, List.map_cons, List.sum_cons, List.sum_cons]; omega
theorem joinT_sub {xs : List ByteArray} {p : ByteArray} (h : xs.Sublist (nodesT p)) : (joinT xs).size ≤ p.size := by
  have e : (joinT xs).size = (Lib.join (xs.map byL) [46]).length := rfl
  rw [e]
  by_cases h0 : xs = []
  · subst h0
    simp [Lib.join_nil]
  · have h1 := join_len (xs.map byL) (by simpa using h0)
    have h2 := lenS_sub (h.map byL)
    have h3 := join_len ((nodesT p).map byL) (by have := nodesT_len p; intro k; simp at k; rw [k] at this; simp at this)
    have h4 : Lib.join ((nodesT p).map byL) [46] = p.data.toList := by
      have := join_nodesT p
      unfold joinT at this
      have h5 := congrArg (fun x : ByteArray => x.data.toList) this
      exact h5
    rw [h4] at h3
    have h5 : p.data.toList.length = p.size := by simp
    omega
/-! ### labels of which no two bear one name -/
theorem getL_mem : ∀ {L : List Lab} {x : Lab}, (L.map nmL).Nodup → x ∈ L → getL L (nmL x) = some x
  | [], x, _, h => by simp at h
  | y :: t, x, hn, h => by
    rw [List.map_cons, List.nodup_cons] at hn
    unfold getL
    rw [List.find?_cons]
    rcases List.mem_cons.1 h with rfl | h
    · rw [show (nmL x == nmL x) = true from beq_self_eq_true _]
    · have : (nmL y == nmL x) = false := by
        rw [beq_eq_false_iff_ne]
        intro e
        exact hn.1 (by rw [e]; exact List.mem_map.2 ⟨x, h, rfl⟩)
      rw [this]
      exact getL_mem hn.2 h
theorem getL_app {L : List Lab} {n : List UInt8} {x y : Lab} (h : getL L n = some y) : getL (L ++ [x]) n = some y := by
  unfold getL at *
  rw [List.find?_append, h]; rfl
theorem pw_of_cnt {ls : List ByteArray} (h : ∀ x ∈ ls, cntL ls x ≤ 1) : (ls.map byL).Nodup := by
  induction ls with
  | nil => simp
  | cons a t ih =>
    rw [List.map_cons, List.nodup_cons]
    constructor
    · intro hm
      obtain ⟨b, hb, e⟩ := List.mem_map.1 hm
      have := h a (by simp)
      unfold cntL at this
      rw [List.countP_cons, if_pos (by simp)] at this
      have h2 : 0 < t.countP fun p => p.data.toList == a.data.toList := List.countP_pos_iff.2 ⟨b, hb, by rw [beq_iff_eq]; exact e⟩
      omega
    · refine ih (fun x hx => ?_)
      have := h x (List.mem_cons_of_mem _ hx)
      unfold cntL at this ⊢
      rw [List.countP_cons] at this
      omega
theorem good_distinct {r : MRule} (h : goodR r = true) (ns : List ByteArray) : ((r.extra ++ lbOf r.parts ns).map nmL).Nodup := by
  unfold goodR partsB extraB at h
  simp only [Bool.and_eq_true, Bool.not_eq_true', decide_eq_true_eq] at h
  obtain ⟨_, _, _, ⟨_, _, _, hl⟩, he, _⟩ := h
  have e1 : (lbOf r.parts ns).map nmL = (lbsT r.parts).map byL := by
    rw [← lbOf_names r.parts ns, List.map_map]; rfl
  have hat : ∀ i, i < r.extra.length → extraAt r.parts r.extra i = true := fun i hi => List.all_eq_true.1 he i (List.mem_range.2 hi)
  have hsucc : ∀ i (hi : i + 1 < r.extra.length), nmL (r.extra[i]'(by omega)) < nmL r.extra[i + 1] := fun i hi => by
    have := hat (i + 1) hi
    unfold extraAt at this
    simp only [Bool.and_eq_true, Bool.or_eq_true, decide_eq_true_eq] at this
    have h2 := this.1.resolve_left (by omega)
    rw [Nat.add_sub_cancel, List.getD_eq_getElem?_getD, List.getD_eq_getElem?_getD, List.getElem?_eq_getElem (by omega), List.getElem?_eq_getElem hi] at h2
    exact h2
  have hlt : ∀ j i (hij : i < j) (hj : j < r.extra.length), nmL (r.extra[i]'(by omega)) < nmL r.extra[j] := by
    intro j
    induction j with
    | zero => intro i hij; omega
    | succ j ih =>
      intro i hij hj
      by_cases e : i = j
      · subst e; exact hsucc i hj
      · exact List.lt_trans (ih i (by omega) (by omega)) (hsucc j hj)
  rw [List.map_append, e1]
  refine List.nodup_append.2 ⟨?_, ?_, ?_⟩
  · unfold List.Nodup
    rw [List.pairwise_map, List.pairwise_iff_getElem]
    intro i j hi hj hij e
    have := hlt j i hij hj
    rw [e] at this
    exact List.lt_irrefl _ this
  · refine pw_of_cnt (fun x hx => ?_)
    have := List.any_eq_false.1 hl x hx
    unfold wrongP at this
    simp only [Bool.or_eq_true, not_or, decide_eq_true_eq] at this
    omega
  · intro a ha b hb
    obtain ⟨x, hx, rfl⟩ := List.mem_map.1 ha
    obtain ⟨y, hy, rfl⟩ := List.mem_map.1 hb
    obtain ⟨i, hi, rfl⟩ := List.getElem_of_mem hx
    have := hat i hi
    unfold extraAt at this
    simp only [Bool.and_eq_true, decide_eq_true_eq] at this
    have e : r.extra.getD i default = r.extra[i] := by rw [List.getD_eq_getElem?_getD, List.getElem?_eq_getElem hi]; rfl
    rw [e] at this
    have h0 := this.2.2.2.2
    intro k
    unfold cntL at h0
    have h2 : 0 < (lbsT r.parts).countP fun p => p.data.toList == r.extra[i].1.data.toList := List.countP_pos_iff.2 ⟨y, hy, by rw [beq_iff_eq]; exact k.symm⟩
    omega
/-! ### the law -/
structure BackT (r : MRule) (p : ByteArray) (L : List Lab) : Prop where
  nd : (L.map nmL).Nodup
  mem : ∀ z, z ∈ L ↔ z ∈ r.extra ++ lbOf r.parts (nodesT p)
theorem take_back {r : MRule} (h : goodR r = true) (p : ByteArray) : BackT r p (takeT r p).2 := by
  have hd := good_distinct h (nodesT p)
  have e : (takeT r p).2 = (sortL (r.extra ++ lbOf r.parts (nodesT p))).getD [] := by unfold takeT; rw [takeGo_of]
  have hs : sortL (r.extra ++ lbOf r.parts (nodesT p)) = some ((r.extra ++ lbOf r.parts (nodesT p)).mergeSort fun x y => decide (nmL x ≤ nmL y)) := by
    unfold sortL distinct
    rw [if_pos (decide_eq_true hd)]
  rw [e, hs]
  have hp := List.mergeSort_perm (r.extra ++ lbOf r.parts (nodesT p)) fun x y => decide (nmL x ≤ nmL y)
  exact ⟨((hp.map nmL).nodup_iff).2 hd, fun z => hp.mem_iff⟩
theorem match_lens {r : MRule} {p : ByteArray} (h : matchT r p = true) : goodR r = true ∧ r.parts.length ≤ (nodesT p).length ∧ ((nodesT p).length = r.parts.length ∨ endT r.parts = true) := by
  unfold matchT fitsN endless at h
  simp only [Bool.and_eq_true, Bool.not_eq_true', Bool.or_eq_false_iff, decide_eq_false_iff_not, Bool.and_eq_false_iff, Bool.not_eq_false'] at h
  refine ⟨h.1, by omega, ?_⟩
  rcases h.2.1.2 with k | k
  · left; omega
  · right; exact k
theorem outL_own {r : MRule} {p : ByteArray} {L : List Lab} (hb : BackT r p L) : outL L (ownT r) = [] := by
  unfold outL
  rw [List.filter_eq_nil_iff]
  intro z hz
  have : (ownT r).any (fun n => n.data.toList == nmL z) = true := by
    rw [List.any_eq_true]
    rcases List.mem_append.1 ((hb.mem z).1 hz) with h | h
    · exact ⟨z.1, List.mem_append.2 (.inr (List.mem_map.2 ⟨z, h, rfl⟩)), by rw [beq_iff_eq]; rfl⟩
    · refine ⟨z.1, List.mem_append.2 (.inl ?_), by rw [beq_iff_eq]; rfl⟩
      rw [← lbOf_names r.parts (nodesT p)]
      exact List.mem_map.2 ⟨z, h, rfl⟩
  rw [this]; simp
theorem own_not {r : MRule} {p : ByteArray} {L : List Lab} (hb : BackT r p L) {x : Lab} (hx : ∀ y ∈ L, nmL y ≠ nmL x) : outL (L ++ [x]) (ownT r) = [x] := by
  have h0 := outL_own hb
  unfold outL at h0 ⊢
  rw [List.filter_append, h0, List.nil_append, List.filter_cons, if_pos]
  · rfl
  · have : (ownT r).any (fun n => n.data.toList == nmL x) = false := by
      rw [List.any_eq_false]
      intro n hn k
      rw [beq_iff_eq] at k
      rcases List.mem_append.1 hn with h | h
      · rw [← lbOf_names r.parts (nodesT p)] at h
        obtain ⟨z, hz, rfl⟩ := List.mem_map.1 h
        exact hx z ((hb.mem z).2 (List.mem_append.2 (.inr hz))) k
      · obtain ⟨z, hz, rfl⟩ := List.mem_map.1 h
        exact hx z ((hb.mem z).2 (List.mem_append.2 (.inl hz))) k
    rw [this]; rfl
theorem back_any {r : MRule} {p : ByteArray} {L : List Lab} (hm : matchT r p = true) (hK : ∀ x ∈ r.parts, isK x = false) (hn : ∀ z ∈ lbOf r.parts (nodesT p), inksB dtNode (vlL z) = true)
    (hg : ∀ z ∈ r.extra ++ lbOf r.parts (nodesT p), getL L (nmL z) = some z) : invertT r (takeT r p).1 L = (p, outL L (ownT r), true) := by
  obtain ⟨hgood, hl, he⟩ := match_lens hm
  obtain ⟨_, hp0, hp1, _, _⟩ := good_parts hgood
  have hnm : namedB r.parts = true := by
    unfold goodR partsB at hgood
    simp only [Bool.and_eq_true] at hgood
    exact hgood.2.2.2.1.2.1
  have e1 : (takeT r p).1 = joinT (nmOf r.parts (nodesT p)) := by unfold takeT; rw [takeGo_of]; rfl
  have e2 : nodesT (takeT r p).1 = nmOf r.parts (nodesT p) := by
    rw [e1]
    exact nodes_joinT (nmOf_some _ _ hl hnm) (fun x hx => nodesT_nodot (nmOf_mem _ _ _ hl hx))
  have e3 : pathGo L r.parts (nodesT (takeT r p).1) [] = (nodesT p, true) := by
    rw [e2]
    have := pathGo_of (L := L) r.parts (nodesT p) [] hl he hp1 hK (fun z hz => ⟨z, hg z (List.mem_append.2 (.inr hz)), rfl, hn z hz⟩)
    simpa using this
  have e4 : r.extra.all (hasX L) = true := by
    rw [List.all_eq_true]
    intro x hx
    unfold hasX
    rw [hg x (List.mem_append.2 (.inl hx))]
    simp
  unfold invertT
  rw [e3]
  simp only
  rw [join_nodesT, hgood, e4, hm]
  rfl
/-- Put together again, nothing is left. -/
theorem back_same {r : MRule} {p : ByteArray} (hm : matchT r p = true) (hK : ∀ x ∈ r.parts, isK x = false) (hn : ∀ z ∈ lbOf r.parts (nodesT p), inksB dtNode (vlL z) = true) : invertT r (takeT r p).1 (takeT r p).2 = (p, [], true) := by
  have hb := take_back (match_lens hm).1 p
  rw [back_any hm hK hn (fun z hz => getL_mem hb.nd ((hb.mem z).2 hz)), outL_own hb]
/-- With a label more this is left. -/
theorem back_more {r : MRule} {p : ByteArray} {x : Lab} (hm : matchT r p = true) (hK : ∀ x ∈ r.parts, isK x = false) (hn : ∀ z ∈ lbOf r.parts (nodesT p), inksB dtNode (vlL z) = true) (hx : ∀ y ∈ (takeT r p).2, nmL y ≠ nmL x) : invertT r (takeT r p).1 ((takeT r p).2 ++ [x]) = (p, [x], true) := by
  have hb := take_back (match_lens hm).1 p
  rw [back_any hm hK hn (fun z hz => getL_app (getL_mem hb.nd ((hb.mem z).2 hz))), own_not hb hx]
/-- A rule with _ puts nothing together. -/
theorem back_none {r : MRule} {n : ByteArray} {L : List Lab} (hK : ∃ x ∈ r.parts, isK x = true) : invertT r n L = (mkS [], [], false) := by
  unfold invertT
  rw [pathGo_K _ _ _ hK]
  simp
theorem take_name_sz {r : MRule} {p : ByteArray} (hm : matchT r p = true) : (takeT r p).1.size ≤ p.size := by
  obtain ⟨hgood, hl, _⟩ := match_lens hm
  obtain ⟨_, _, hp1, _, _⟩ := good_parts hgood
  have e1 : (takeT r p).1 = joinT (nmOf r.parts (nodesT p)) := by unfold takeT; rw [takeGo_of]; rfl
  rw [e1]
  exact joinT_sub (nmOf_sub _ _ hl hp1)
theorem take_lab_sz {r : MRule} {p : ByteArray} (hm : matchT r p = true) (hp : p.size ≤ 512) : ∀ z ∈ (takeT r p).2, z.2.size ≤ 512 := by
  obtain ⟨hgood, hl, _⟩ := match_lens hm
  intro z hz
  rcases List.mem_append.1 (((take_back hgood p).mem z).1 hz) with h | h
  · unfold goodR extraB at hgood
    simp only [Bool.and_eq_true, decide_eq_true_eq] at hgood
    obtain ⟨i, hi, rfl⟩ := List.getElem_of_mem h
    have := List.all_eq_true.1 hgood.2.2.2.2.1 i (List.mem_range.2 hi)
    unfold extraAt at this
    simp only [Bool.and_eq_true, decide_eq_true_eq] at this
    have e : r.extra.getD i default = r.extra[i] := by rw [List.getD_eq_getElem?_getD, List.getElem?_eq_getElem hi]; rfl
    rw [e] at this
    have := this.2.2.2.1
    omega
  · obtain ⟨i, h1, _, h3⟩ := lbOf_at _ _ _ h
    rw [List.getD_eq_getElem?_getD] at h3
    cases k : (nodesT p)[i]? with
    | none => rw [k] at h3; rw [← h3]; decide
    | some y =>
      rw [k] at h3
      have := nodesT_sz (List.mem_of_getElem? k)
      have e : y = z.2 := h3
      rw [← e]; omega
end
section
attribute [local go_sem ↓] Go.wp_at_zero Go.wp_at_succ
def orI (x y : Int) : Int := if x ≠ 0 then x else y
theorem row_at {L M : List Lab} {k : Nat} {x y : Lab} (h : L[k]? = some x) (g : M[k]? = some y) : cmpRow (L.drop k) (M.drop k) = if cmpLab x y ≠ 0 then cmpLab x y else cmpRow (L.drop (k + 1)) (M.drop (k + 1)) := by
  rw [drop_at h, drop_at g, cmpRow]
theorem row_more {L M : List Lab} {k : Nat} {x : Lab} (h : L[k]? = some x) (g : M.length ≤ k) : cmpRow (L.drop k) (M.drop k) = 1 := by
  rw [drop_at h, List.drop_of_length_le g, cmpRow]
theorem row_less {L M : List Lab} {k : Nat} {y : Lab} (h : L.length ≤ k) (g : M[k]? = some y) : cmpRow (L.drop k) (M.drop k) = -1 := by
  rw [drop_at g, List.drop_of_length_le h, cmpRow]
theorem row_same {L M : List Lab} {k : Nat} (h : L.length ≤ k) (g : M.length ≤ k) : cmpRow (L.drop k) (M.drop k) = 0 := by
  rw [List.drop_of_length_le h, List.drop_of_length_le g, cmpRow]
/-! ### the reference's -/
theorem rlText_any (x y : ByteArray) (w : World) :
    Calls Tryz.prog 62 #[.string x, .string y] w fun e w' => e = .returned (.int .i64 (Lib.compareBytes x.data.toList y.data.toList)) ∧ w = w' := by
  have h3 := cmpB_tri x.data.toList y.data.toList
  rcases bs3 x.data.toList y.data.toList with k | k | k
  · have HV := Lib.hid (h3.1 k)
    have h1 : Op.bytesLess x.toList y.toList = true := by (rw [bytesLess_eq, ByteArray.toList_eq, ByteArray.toList_eq]; exact decide_eq_true k)
    clear h3 k
    go_enter Tryz.func62, Tryz.ntmps62
    go_wp2_with fail
    go_ret
    exact ⟨ret_int HV.out.symm, rfl⟩
  · have HV := Lib.hid (h3.2.1 k)
    have h1 : Op.bytesLess x.toList y.toList = false := by (rw [bytesLess_eq, ByteArray.toList_eq, ByteArray.toList_eq]; exact decide_eq_false (by rw [k]; exact List.lt_irrefl _))
    have h2 : (x.toList == y.toList) = true := by (rw [ByteArray.toList_eq, ByteArray.toList_eq, beq_iff_eq]; exact k)
    clear h3 k
    go_enter Tryz.func62, Tryz.ntmps62
    go_wp2_with fail
    go_ret
    exact ⟨ret_int HV.out.symm, rfl⟩
  · have HV := Lib.hid (h3.2.2 k)
    have h1 : Op.bytesLess x.toList y.toList = false := by (rw [bytesLess_eq, ByteArray.toList_eq, ByteArray.toList_eq]; exact decide_eq_false (List.not_lt.2 (List.le_of_lt k)))
    have h2 : (x.toList == y.toList) = false := by (rw [ByteArray.toList_eq, ByteArray.toList_eq, beq_eq_false_iff_ne]; intro h; rw [h] at k; exact List.lt_irrefl _ k)
    clear h3 k
    go_enter Tryz.func62, Tryz.ntmps62
    go_wp2_with fail
    go_ret
    exact ⟨ret_int HV.out.symm, rfl⟩
def numB (a b : Int) : Int := if a < b then -1 else if b < a then 1 else 0
theorem rlNumber_any (a b : Int) (w : World) :
    Calls Tryz.prog 63 #[.int .i64 a, .int .i64 b] w fun e w' => e = .returned (.int .i64 (numB a b)) ∧ w = w' := by
  by_cases h : a < b
  · have HV : Hid (numB a b = -1) := Lib.hid (if_pos h)
    go_enter Tryz.func63, Tryz.ntmps63
    go_wp2_with fail
    go_ret
    exact ⟨ret_int HV.out.symm, rfl⟩
  · by_cases k : b < a
    · have HV : Hid (numB a b = 1) := Lib.hid (by unfold numB; rw [if_neg h, if_pos k])
      go_enter Tryz.func63, Tryz.ntmps63
      go_wp2_with fail
      go_ret
      exact ⟨ret_int HV.out.symm, rfl⟩
    · have HV : Hid (numB a b = 0) := Lib.hid (by unfold numB; rw [if_neg h, if_neg k])
      go_enter Tryz.func63, Tryz.ntmps63
      go_wp2_with fail
      go_ret
      exact ⟨ret_int HV.out.symm, rfl⟩
theorem row_end {L M : List Lab} {k : Nat} (h : L.length ≤ k ∨ M.length ≤ k) (g : k ≤ L.length) (g2 : k ≤ M.length) : cmpRow (L.drop k) (M.drop k) = numB L.length M.length := by
  unfold numB
  by_cases h1 : L.length ≤ k
  · by_cases h2 : M.length ≤ k
    · rw [row_same h1 h2, if_neg (by omega), if_neg (by omega)]
    · rw [row_less h1 (List.getElem?_eq_getElem (by omega)), if_pos (by omega)]
  · rw [row_more (List.getElem?_eq_getElem (by omega)) (by omega), if_neg (by omega), if_pos (by omega)]
set_option maxRecDepth 100000 in
set_option maxHeartbeats 1600000 in
theorem refCompare_any (A : Option Addr) (n cap : Nat) (L : List Lab) (A2 : Option Addr) (n2 cap2 : Nat) (M : List Lab) (w : World) (hl : IsRows labCell 2 w w.heap.size A n L) (hn : n ≤ 4611686018427387904) (hm : IsRows labCell 2 w w.heap.size A2 n2 M) (hn2 : n2 ≤ 4611686018427387904) :
    Calls Tryz.prog 40 #[.slice A n cap, .slice A2 n2 cap2] w fun e w' => e = .returned (.int .i64 (cmpRow L M)) ∧ Below w.heap.size w w' := by
  have hll := hl.1
  have hmm := hm.1
  go_enter Tryz.func40, Tryz.ntmps40
  go_wp2_with fail
  go_loopw [5] (fun i wr => Below w.heap.size w wr ∧ ∃ k : Nat, k ≤ n ∧ k ≤ n2 ∧ i = .int .i64 k ∧ Hid (cmpRow L M = cmpRow (L.drop k) (M.drop k))) (fun i _ => n - (intOf i).toNat)
  case atStart => exact ⟨Below.refl _ _, 0, by omega, by omega, rfl, Lib.hid rfl⟩
  case round =>
    obtain ⟨hbw, k, hk, hk2, rfl, HG⟩ := hrel
    have hwr := hbw.size
    have hk0 : (0 : Int) ≤ k := by omega
    by_cases hlt : k < n ∧ k < n2
    · obtain ⟨hlt, hlt2⟩ := hlt
      have hdk : decide ((k : Int) < n) = true := decide_eq_true (by omega)
      have hdk2 : decide ((k : Int) < n2) = true := decide_eq_true (by omega)
      have hk1 : (k : Int) < n := by omega
      have hk3 : (k : Int) < n2 := by omega
      obtain ⟨b, off, x, y, rfl, hgb, hx, e0, e1⟩ := lab_at (hl.below hbw) hlt
      obtain ⟨b2, off2, x2, y2, rfl, hgb2, hx2, d0, d1⟩ := lab_at (hm.below hbw) hlt2
      have HR := Lib.hid (HG.out.trans (row_at hx hx2))
      have hu : cmpLab (x, y) (x2, y2) = if Lib.compareBytes x.data.toList x2.data.toList ≠ 0 then Lib.compareBytes x.data.toList x2.data.toList else Lib.compareBytes y.data.toList y2.data.toList := rfl
      have HU := Lib.hid hu
      clear hu HG
      have t1 := fun W => rlText_any x x2 W
      have t2 := fun W => rlText_any y y2 W
      generalize Lib.compareBytes x.data.toList x2.data.toList = c1 at t1 HU
      generalize Lib.compareBytes y.data.toList y2.data.toList = c2 at t2 HU
      cases hc : (c1 == 0)
      · have hc2 : (c1 != 0) = true := by rw [bne, hc]; rfl
        have HF : Hid (cmpRow L M = c1) := Lib.hid (by have h : c1 ≠ 0 := (by simpa using hc); rw [HR.out, HU.out, if_pos h, if_pos h])
        clear HR HU
        go_wp2_with fail
        go_quiet ((go_at_call 62; exact quiet_left (t1 _)))
        go_wp2_with fail
        go_ret
        exact ⟨ret_int HF.out.symm, bl_drewN hbw _⟩
      · have hc2 : (c1 != 0) = false := by rw [bne, hc]; rfl
        cases hd : (c2 == 0)
        · have hd2 : (c2 != 0) = true := by rw [bne, hd]; rfl
          have HF : Hid (cmpRow L M = c2) := Lib.hid (by have h : c2 ≠ 0 := (by simpa using hd); have h0 : ¬ c1 ≠ 0 := (by simpa using hc); rw [HR.out, HU.out, if_neg h0, if_pos h])
          clear HR HU
          go_wp2_with fail
          go_quiet ((go_at_call 62; exact quiet_left (t1 _)))
          go_wp2_with fail
          go_quiet ((go_at_call 62; exact quiet_add_left (t2 _)))
          go_wp2_with fail
          go_ret
          exact ⟨ret_int HF.out.symm, bl_drewN hbw _⟩
        · have hd2 : (c2 != 0) = false := by rw [bne, hd]; rfl
          have HF : Hid (cmpRow L M = cmpRow (L.drop (k + 1)) (M.drop (k + 1))) := Lib.hid (by have h : ¬ c2 ≠ 0 := (by simpa using hd); have h0 : ¬ c1 ≠ 0 := (by simpa using hc); rw [HR.out, HU.out, if_neg h0, if_neg h])
          clear HR HU
          go_wp2_with fail
          go_quiet ((go_at_call 62; exact quiet_left (t1 _)))
          go_wp2_with fail
          go_quiet ((go_at_call 62; exact quiet_add_left (t2 _)))
          go_wp2_with fail
          exact ⟨⟨bl_drewN hbw _, k + 1, by omega, by omega, rfl, HF⟩, by (simp only [intOf]; omega)⟩
    · have HF : Hid (cmpRow L M = numB n n2) := Lib.hid (by have := HG.out.trans (row_end (L := L) (M := M) (k := k) (by omega) (by omega) (by omega)); rw [hll, hmm] at this; exact this)
      clear HG
      have hnum := fun W => rlNumber_any n n2 W
      by_cases hlt1 : k < n
      · have hdk : decide ((k : Int) < n) = true := decide_eq_true (by omega)
        have hdk2 : decide ((k : Int) < n2) = false := decide_eq_false (by omega)
        go_wp2_with (go_at_call 63; refine (hnum _).mono ?_; rintro e w1 ⟨rfl, rfl⟩)
        go_ret
        exact ⟨ret_int HF.out.symm, hbw⟩
      · have hdk : decide ((k : Int) < n) = false := decide_eq_false (by omega)
        go_wp2_with (go_at_call 63; refine (hnum _).mono ?_; rintro e w1 ⟨rfl, rfl⟩)
        go_ret
        exact ⟨ret_int HF.out.symm, hbw⟩
def sameB (L M : List Lab) : Bool := decide (cmpRow L M = 0)
theorem refSame_any (A : Option Addr) (n cap : Nat) (L : List Lab) (A2 : Option Addr) (n2 cap2 : Nat) (M : List Lab) (w : World) (hl : IsRows labCell 2 w w.heap.size A n L) (hn : n ≤ 4611686018427387904) (hm : IsRows labCell 2 w w.heap.size A2 n2 M) (hn2 : n2 ≤ 4611686018427387904) :
    Calls Tryz.prog 16 #[.slice A n cap, .slice A2 n2 cap2] w fun e w' => e = .returned (.bool (sameB L M)) ∧ Below w.heap.size w w' := by
  go_enter Tryz.func16, Tryz.ntmps16
  go_wp2_with (go_at_call 40; refine (refCompare_any A n cap L A2 n2 cap2 M _ hl hn hm hn2).mono ?_; rintro e w1 ⟨rfl, hb1⟩)
  go_ret
  exact ⟨ret_bool (bcl (by unfold sameB; simp)), hb1⟩
theorem sameB_iff (L M : List Lab) : sameB L M = true ↔ L = M := by
  unfold sameB; rw [decide_eq_true_eq, cmpRow_zero]
end
section
set_option maxRecDepth 100000 in
set_option maxHeartbeats 1600000 in
theorem sameTexts_same (A : Option Addr) (n cap : Nat) (A2 : Option Addr) (cap2 : Nat) (xs : List ByteArray) (w : World) (hl : IsRows strCell 1 w w.heap.size A n xs) (hl2 : IsRows strCell 1 w w.heap.size A2 n xs) (hn : n ≤ 2097152) :
    Calls Tryz.prog 46 #[.slice A n cap, .slice A2 n cap2] w fun e w' => e = .returned (.bool true) ∧ Below w.heap.size w w' := by
  go_enter Tryz.func46, Tryz.ntmps46
  go_wp2_with fail
  go_loopw [5] (fun i wr => Below w.heap.size w wr ∧ ∃ k : Nat, k ≤ n ∧ i = .int .i64 k) (fun i _ => n - (intOf i).toNat)
  case atStart => exact ⟨Below.refl _ _, 0, by omega, rfl⟩
  case round =>
    obtain ⟨hbw, k, hk, rfl⟩ := hrel
    by_cases hlt : k < n
    · have hdk : decide ((k : Int) < (n : Int)) = true := decide_eq_true (by omega)
      have hk0 : (0 : Int) ≤ k := by omega
      have hk1 : (k : Int) < (n : Int) := by omega
      obtain ⟨b, off, x, rfl, hgb, hx, e0⟩ := str_at (hl.bel hbw) hlt
      obtain ⟨b2, off2, y, rfl, hgb2, hy, e1⟩ := str_at (hl2.bel hbw) hlt
      obtain rfl : x = y := by rw [hx] at hy; injection hy
      clear hx hy
      go_wp2_with fail
      go_quiet (fail)
      go_wp2_with fail
      exact ⟨⟨bl_drewN hbw _, k + 1, by omega, rfl⟩, by (simp only [intOf]; omega)⟩
    · have hdk : decide ((k : Int) < (n : Int)) = false := decide_eq_false (by omega)
      go_wp2_with fail
      go_ret
      exact ⟨rfl, hbw⟩
set_option maxRecDepth 100000 in
set_option maxHeartbeats 3200000 in
theorem sameRule_same (fs ps : List ByteArray) (es : List Lab) (fA pA eA fA2 pA2 eA2 : Option Addr) (fC pC eC fC2 pC2 eC2 : Nat) (w : World) (h1 : RuleAt w w.heap.size ⟨⟨fs, ps, es⟩, fA, fC, pA, pC, eA, eC⟩) (h2 : RuleAt w w.heap.size ⟨⟨fs, ps, es⟩, fA2, fC2, pA2, pC2, eA2, eC2⟩)
    (hf : fs.length ≤ 2097152) (hp : ps.length ≤ 2097152) (he : es.length ≤ 2097152) :
    Calls Tryz.prog 19 #[.agg #[.slice fA fs.length fC, .slice pA ps.length pC, .slice eA es.length eC], .agg #[.slice fA2 fs.length fC2, .slice pA2 ps.length pC2, .slice eA2 es.length eC2]] w fun e w' => e = .returned (.bool true) ∧ Below w.heap.size w w' := by
  have q1 := (Blk.new w 25 #[.slice fA fs.length fC, .slice pA ps.length pC, .slice eA es.length eC]).alloc (.cells #[.slice fA2 fs.length fC2, .slice pA2 ps.length pC2, .slice eA2 es.length eC2] 25)
  have q2 := Blk.new (w.alloc (.cells #[.slice fA fs.length fC, .slice pA ps.length pC, .slice eA es.length eC] 25)) 25 #[.slice fA2 fs.length fC2, .slice pA2 ps.length pC2, .slice eA2 es.length eC2]
  have hb0 : Below w.heap.size w ((w.alloc (.cells #[.slice fA fs.length fC, .slice pA ps.length pC, .slice eA es.length eC] 25)).alloc (.cells #[.slice fA2 fs.length fC2, .slice pA2 ps.length pC2, .slice eA2 es.length eC2] 25)) := bl_alloc (bl_alloc (Below.refl _ _) _) _
  have hz : (w.alloc (.cells #[.slice fA fs.length fC, .slice pA ps.length pC, .slice eA es.length eC] 25)).heap.size = w.heap.size + 1 := by simp
  rw [hz] at q2
  clear hz
  have kF := fun W (hb : Below w.heap.size w W) => sameTexts_same fA fs.length fC fA2 fC2 fs W (h1.bel hb).f (h2.bel hb).f hf
  have kP := fun W (hb : Below w.heap.size w W) => sameTexts_same pA ps.length pC pA2 pC2 ps W (h1.bel hb).p (h2.bel hb).p hp
  have kE := fun W (hb : Below w.heap.size w W) => refSame_any eA es.length eC es eA2 es.length eC2 es W (h1.bel hb).e (by omega) (h2.bel hb).e (by omega)
  rw [(sameB_iff es es).2 rfl] at kE
  clear h1 h2
  go_enter Tryz.func19, Tryz.ntmps19
  go_upto_region 1 with (fail)
  generalize (w.alloc (.cells #[.slice fA fs.length fC, .slice pA ps.length pC, .slice eA es.length eC] 25)).alloc (.cells #[.slice fA2 fs.length fC2, .slice pA2 ps.length pC2, .slice eA2 es.length eC2] 25) = W1 at *
  have a0 := (Blk.cell q1 0).trans rfl
  have a1 := (Blk.cell q2 0).trans rfl
  go_wp2_with (first
    | (go_at_call 46; (with_reducible refine (kF _ hb0).mono ?_); rintro e w1 ⟨rfl, hb1⟩; have r1 := q1.below hb1 (Blk.lt q1); have r2 := q2.below hb1 (Blk.lt q2); have b0 := (Blk.cell r1 1).trans rfl; have b1 := (Blk.cell r2 1).trans rfl; have hB1 := bl_any hb0 hb1)
    | (go_at_call 46; (with_reducible refine (kP _ hB1).mono ?_); rintro e w2 ⟨rfl, hb2⟩; have s1 := r1.below hb2 (Blk.lt r1); have s2 := r2.below hb2 (Blk.lt r2); have d0 := (Blk.cell s1 2).trans rfl; have d1 := (Blk.cell s2 2).trans rfl; have hB2 := bl_any hB1 hb2)
    | (go_at_call 16; (with_reducible refine (kE _ hB2).mono ?_); rintro e w3 ⟨rfl, hb3⟩; have hB3 := bl_any hB2 hb3))
  go_ret
  exact ⟨rfl, hB3⟩
end
section
theorem sep_snoc (c : UInt8) (x : List UInt8) : ∀ xs : List (List UInt8), xs ≠ [] → sepL c (xs ++ [x]) = sepL c xs ++ c :: x
  | [], h => absurd rfl h
  | [y], _ => rfl
  | y :: z :: r, _ => by
    have ih := sep_snoc c x (z :: r) (by simp)
    rw [List.cons_append, List.cons_append, sep_two, sep_two, ← List.cons_append, ih]
    simp
def mkd (c d : UInt8) (xs : List (List UInt8)) : List UInt8 := if xs = [] then [] else c :: sepL d xs
theorem mkd_snoc (c d : UInt8) (x : List UInt8) (xs : List (List UInt8)) : mkd c d (xs ++ [x]) = mkd c d xs ++ (if xs = [] then c else d) :: x := by
  unfold mkd
  by_cases h : xs = []
  · subst h; rfl
  · rw [if_neg (by simp), if_neg h, if_neg h, sep_snoc d x xs h]; rfl
structure GoodSz (r : MRule) : Prop where
  f : r.filter.length ≤ 12 ∧ ∀ x ∈ r.filter, x.size ≤ 60
  p : r.parts.length ≤ 12 ∧ ∀ x ∈ r.parts, x.size ≤ 60
  e : r.extra.length ≤ 8 ∧ ∀ x ∈ r.extra, x.1.size ≤ 60 ∧ x.2.size ≤ 60
theorem textB_sz {x : ByteArray} (h : textB x = true) : x.size ≤ 60 := by
  unfold textB at h
  rw [Bool.and_eq_true, decide_eq_true_eq] at h
  exact h.2
theorem data_sz (x : ByteArray) {l : List UInt8} (h : byL x = l) : x.size = l.length := by
  rw [← h]; unfold byL; simp
theorem good_sz {r : MRule} (h : goodR r = true) : GoodSz r := by
  have hl := good_lens h
  have hlf := hl.1
  unfold goodR partsB extraB at h
  simp only [Bool.and_eq_true, Bool.not_eq_true', decide_eq_true_eq] at h
  obtain ⟨_, _, hf, ⟨_, _, _, hl2⟩, he, _⟩ := h
  refine ⟨⟨by omega, fun x hx => ?_⟩, ⟨by omega, fun x hx => ?_⟩, ⟨by omega, fun x hx => ?_⟩⟩
  · have := List.any_eq_false.1 hf x hx
    unfold wrongF at this
    cases hE : isE x
    · rw [hE] at this
      exact textB_sz (by simpa using this)
    · rw [isE_eq hE]; decide
  · cases hM : isM x
    · cases hT : isT x
      · cases hK : isK x
        · have hL : x ∈ lbsT r.parts := List.mem_filter.2 ⟨hx, by unfold isLb; rw [hM, hT, hK]; rfl⟩
          have := List.any_eq_false.1 hl2 x hL
          unfold wrongP at this
          simp only [Bool.or_eq_true, not_or, Bool.not_eq_true', Bool.not_eq_false] at this
          exact textB_sz this.1
        · unfold isK at hK
          rw [data_sz x (beq_iff_eq.1 hK)]; decide
      · rw [isT_eq hT]; decide
    · rw [data_sz x (isM_data hM)]; decide
  · obtain ⟨i, hi, rfl⟩ := List.getElem_of_mem hx
    have := List.all_eq_true.1 he i (List.mem_range.2 hi)
    unfold extraAt at this
    simp only [Bool.and_eq_true, decide_eq_true_eq] at this
    have e : r.extra.getD i default = r.extra[i] := by rw [List.getD_eq_getElem?_getD, List.getElem?_eq_getElem hi]; rfl
    rw [e] at this
    exact ⟨textB_sz this.2.1, this.2.2.2.1⟩
theorem byL_app (a b : ByteArray) : byL (a ++ b) = byL a ++ byL b := by
  unfold byL
  rw [ByteArray.data_append, Array.toList_append]
theorem map_take_at {α β : Type} {f : α → β} {l : List α} {k : Nat} {x : α} (h : l[k]? = some x) : (l.take (k + 1)).map f = (l.take k).map f ++ [f x] := by
  rw [List.take_add_one, h]; simp
theorem take_nil {α β : Type} {f : α → β} {l : List α} {k : Nat} (h : k < l.length) : ((l.take k).map f = []) ↔ k = 0 := by
  simp [List.map_eq_nil_iff, List.take_eq_nil_iff]
  intro e; subst e; simp at h
theorem txtR_is (fs ps : List ByteArray) (es : List Lab) (hp : ps ≠ []) : txtF fs ++ mkd 32 46 (ps.map byL) ++ mkd 32 44 (es.map labTxt) = txtR ⟨fs, ps, es⟩ := by
  unfold mkd txtR txtE
  simp [hp]
set_option maxRecDepth 100000 in
set_option maxHeartbeats 3200000 in
theorem rtext_any (x : VRule) (w : World) (h : RuleAt w w.heap.size x) (hg : goodR x.rule = true) :
    Calls Tryz.prog 18 #[.agg #[.slice x.fA x.rule.filter.length x.fC, .slice x.pA x.rule.parts.length x.pC, .slice x.eA x.rule.extra.length x.eC]] w fun e w' => e = .returned (.string (mkS (txtR x.rule))) ∧ Below w.heap.size w w' := by
  have hb0 : Below w.heap.size w (w.alloc (.cells #[.slice x.fA x.rule.filter.length x.fC, .slice x.pA x.rule.parts.length x.pC, .slice x.eA x.rule.extra.length x.eC] 25)) := (Below.refl _ _).alloc (Nat.le_refl _) _
  have h0 := h.bel hb0
  obtain ⟨⟨hf12, hfz⟩, ⟨hp12, hpz⟩, ⟨he8, hez⟩⟩ := good_sz hg
  have hp0 := (good_parts hg).p0
  have hW := Blk.new w 25 #[.slice x.fA x.rule.filter.length x.fC, .slice x.pA x.rule.parts.length x.pC, .slice x.eA x.rule.extra.length x.eC]
  have hF := h0.f
  have hP := h0.p
  have hE := h0.e
  clear h h0 hg
  obtain ⟨⟨fs, ps, es⟩, fA, fC, pA, pC, eA, eC⟩ := x
  simp only at *
  have HT := Lib.hid (txtR_is fs ps es hp0)
  have Hfz := Lib.hid hfz
  have Hpz := Lib.hid hpz
  have Hez := Lib.hid hez
  clear hfz hpz hez hp0
  have c0 := (Blk.cell hW 0).trans rfl
  have c1 := (Blk.cell hW 1).trans rfl
  have c2 := (Blk.cell hW 2).trans rfl
  go_enter Tryz.func18, Tryz.ntmps18
  go_wp2_with fail
  go_loop [3, 4] (fun sv i => ∃ (k : Nat) (s : ByteArray), k ≤ fs.length ∧ i = .int .i64 k ∧ sv = .string s ∧ s.size ≤ 61 * k ∧ Hid (byL s = sepL 46 ((fs.take k).map byL))) (fun _ i => fs.length - (intOf i).toNat)
  case atStart => exact ⟨0, ⟨#[]⟩, by omega, rfl, rfl, by decide, Lib.hid (by rw [List.take_zero]; rfl)⟩
  case round =>
    obtain ⟨k, s, hk, rfl, rfl, hs, HS⟩ := hrel
    by_cases hlt : k < fs.length
    · have hdk : decide ((k : Int) < (fs.length : Int)) = true := decide_eq_true (by omega)
      have hk0 : (0 : Int) ≤ k := by omega
      have hk1 : (k : Int) < (fs.length : Int) := by omega
      obtain ⟨b, off, x, rfl, hgb, hx, e0⟩ := str_at hF hlt
      have hxz := Hfz.out x (List.mem_of_getElem? hx)
      have HX := Lib.hid (map_take_at (f := byL) hx)
      have HN := Lib.hid (take_nil (f := byL) hlt)
      clear hx
      by_cases hz : k = 0
      · have hd0 : decide ((0 : Int) < (k : Int)) = false := decide_eq_false (by omega)
        have hd0' : decide (0 < k) = false := decide_eq_false (by omega)
        have HF : Hid (byL (s ++ x) = sepL 46 ((fs.take (k + 1)).map byL)) := Lib.hid (by
          rw [HX.out, byL_app, HS.out, HN.out.2 hz]; rfl)
        have hq : ¬ 9223372036854775807 < s.size + x.size := by omega
        have hsz : (s ++ x).size ≤ 61 * (k + 1) := by rw [ByteArray.size_append]; omega
        clear HS HN HX hz
        go_wp2_with fail
        exact ⟨⟨k + 1, s ++ x, by omega, rfl, rfl, hsz, HF⟩, by (simp only [intOf]; omega)⟩
      · have hd0 : decide ((0 : Int) < (k : Int)) = true := decide_eq_true (by omega)
        have hd0' : decide (0 < k) = true := decide_eq_true (by omega)
        have HF : Hid (byL (s ++ ⟨#[46]⟩ ++ x) = sepL 46 ((fs.take (k + 1)).map byL)) := Lib.hid (by
          rw [HX.out, byL_app, byL_app, HS.out, sep_snoc _ _ _ (fun e => hz (HN.out.1 e)), List.append_assoc]; rfl)
        have hq0 : (s ++ ⟨#[46]⟩).size = s.size + 1 := by rw [ByteArray.size_append]; rfl
        have hsz : (s ++ ⟨#[46]⟩ ++ x).size ≤ 61 * (k + 1) := by rw [ByteArray.size_append]; omega
        have hq1 : ¬ 9223372036854775807 < s.size + 1 := by omega
        have hq2 : ¬ 9223372036854775807 < s.size + 1 + x.size := by omega
        clear HS HN HX hz
        go_wp2_with fail
        exact ⟨⟨k + 1, s ++ ⟨#[46]⟩ ++ x, by omega, rfl, rfl, hsz, HF⟩, by (simp only [intOf]; omega)⟩
    · have hdk : decide ((k : Int) < (fs.length : Int)) = false := decide_eq_false (by omega)
      have hke : k = fs.length := by omega
      have HS2 : Hid (byL s = sepL 46 (fs.map byL)) := Lib.hid (by rw [HS.out, hke, List.take_length])
      have hcase : ∃ s1 : ByteArray, s1.size ≤ 800 ∧ Hid (byL s1 = txtF fs) ∧ ((((fs.length : Int) == 0) = true ∧ s1 = ⟨#[35]⟩) ∨ (((fs.length : Int) == 0) = false ∧ s1 = s)) := by
        by_cases h0 : fs = []
        · exact ⟨⟨#[35]⟩, by decide, Lib.hid (by unfold txtF; rw [if_pos h0]; rfl), .inl ⟨by rw [h0]; rfl, rfl⟩⟩
        · refine ⟨s, by omega, Lib.hid (by unfold txtF; rw [if_neg h0]; exact HS2.out), .inr ⟨?_, rfl⟩⟩
          rw [beq_eq_false_iff_ne]
          intro e
          exact h0 (List.length_eq_zero_iff.1 (by omega))
      clear HS HS2 hke Hfz hF
      obtain ⟨s1, hs1, HS1, hcase⟩ := hcase
      rcases hcase with ⟨hz0, rfl⟩ | ⟨hz0, rfl⟩
      all_goals
        go_wp2_with fail
        go_loop [3, 5, 6] (fun sv mv i => ∃ (k : Nat) (s mk : ByteArray), k ≤ ps.length ∧ i = .int .i64 k ∧ sv = .string s ∧ mv = .string mk ∧ mk.size = 1 ∧ s.size ≤ 800 + 61 * k ∧ Hid (byL s = txtF fs ++ mkd 32 46 ((ps.take k).map byL)) ∧ Hid (byL mk = [if (ps.take k).map byL = [] then 32 else 46])) (fun _ _ i => ps.length - (intOf i).toNat)
        case atStart => exact ⟨0, _, ⟨#[32]⟩, by omega, rfl, rfl, rfl, rfl, hs1, Lib.hid (by rw [HS1.out, List.take_zero]; simp [mkd]), Lib.hid (by rw [List.take_zero]; rfl)⟩
        case round =>
          obtain ⟨k, s, mk, hk, rfl, rfl, rfl, hmk, hs, HS, HM⟩ := hrel
          clear HS1 hs1
          by_cases hlt : k < ps.length
          · have hdk : decide ((k : Int) < (ps.length : Int)) = true := decide_eq_true (by omega)
            have hk0 : (0 : Int) ≤ k := by omega
            have hk1 : (k : Int) < (ps.length : Int) := by omega
            obtain ⟨b, off, x, rfl, hgb, hx, e0⟩ := str_at hP hlt
            have hxz := Hpz.out x (List.mem_of_getElem? hx)
            have HX := Lib.hid (map_take_at (f := byL) hx)
            have hq0 : (mk ++ x).size = 1 + x.size := by rw [ByteArray.size_append, hmk]
            have hsz : (s ++ (mk ++ x)).size ≤ 800 + 61 * (k + 1) := by rw [ByteArray.size_append]; omega
            have HF : Hid (byL (s ++ (mk ++ x)) = txtF fs ++ mkd 32 46 ((ps.take (k + 1)).map byL)) := Lib.hid (by
              rw [HX.out, mkd_snoc, byL_app, byL_app, HS.out, HM.out]; simp)
            have HG : Hid (byL ⟨#[46]⟩ = [if (ps.take (k + 1)).map byL = [] then 32 else 46]) := Lib.hid (by
              rw [HX.out, if_neg (by simp)]; rfl)
            have hq1 : ¬ 9223372036854775807 < mk.size + x.size := by omega
            have hq2 : ¬ 9223372036854775807 < s.size + (mk.size + x.size) := by omega
            have hq3 : ¬ 9223372036854775807 < 1 + x.size := by omega
            have hq4 : ¬ 9223372036854775807 < s.size + (1 + x.size) := by omega
            clear HS HM HX hx
            go_wp2_with fail
            exact ⟨⟨k + 1, s ++ (mk ++ x), ⟨#[46]⟩, by omega, rfl, rfl, rfl, rfl, hsz, HF, HG⟩, by (simp only [intOf]; omega)⟩
          · have hdk : decide ((k : Int) < (ps.length : Int)) = false := decide_eq_false (by omega)
            have hke : k = ps.length := by omega
            have HS2 : Hid (byL s = txtF fs ++ mkd 32 46 (ps.map byL)) := Lib.hid (by rw [HS.out, hke, List.take_length])
            have hs2 : s.size ≤ 1600 := by omega
            clear HS HM hke hs Hpz hP
            go_wp2_with fail
            go_loopw [3, 5, 7] (fun sv mv i wr => Below (w.alloc (.cells #[.slice fA fs.length fC, .slice pA ps.length pC, .slice eA es.length eC] 25)).heap.size (w.alloc (.cells #[.slice fA fs.length fC, .slice pA ps.length pC, .slice eA es.length eC] 25)) wr ∧ ∃ (k : Nat) (s mk : ByteArray), k ≤ es.length ∧ i = .int .i64 k ∧ sv = .string s ∧ mv = .string mk ∧ mk.size = 1 ∧ s.size ≤ 1600 + 122 * k ∧ Hid (byL s = txtF fs ++ mkd 32 46 (ps.map byL) ++ mkd 32 44 ((es.take k).map labTxt)) ∧ Hid (byL mk = [if (es.take k).map labTxt = [] then 32 else 44])) (fun _ _ i _ => es.length - (intOf i).toNat)
            case atStart => exact ⟨Below.refl _ _, 0, _, ⟨#[32]⟩, by omega, rfl, rfl, rfl, rfl, hs2, Lib.hid (by rw [HS2.out, List.take_zero]; simp [mkd]), Lib.hid (by rw [List.take_zero]; rfl)⟩
            case round =>
              obtain ⟨hbw, k, s, mk, hk, rfl, rfl, rfl, hmk, hs, HS, HM⟩ := hrel
              clear HS2 hs2
              have d2 := (hbw.cell (p := ⟨w.heap.size, 2, none⟩) (by simp)).trans c2
              by_cases hlt : k < es.length
              · have hdk : decide ((k : Int) < (es.length : Int)) = true := decide_eq_true (by omega)
                have hk0 : (0 : Int) ≤ k := by omega
                have hk1 : (k : Int) < (es.length : Int) := by omega
                obtain ⟨b, off, xn, xv, rfl, hgb, hx, e0, e1⟩ := lab_at (hE.bel hbw) hlt
                obtain ⟨hxz, hyz⟩ := Hez.out (xn, xv) (List.mem_of_getElem? hx)
                simp only at hxz hyz
                have HX := Lib.hid (map_take_at (f := labTxt) hx)
                have hq0 : (mk ++ xn ++ ⟨#[61]⟩ ++ xv).size = 1 + xn.size + 1 + xv.size := by simp only [ByteArray.size_append, hmk]; rfl
                have hsz : (s ++ (mk ++ xn ++ ⟨#[61]⟩ ++ xv)).size ≤ 1600 + 122 * (k + 1) := by rw [ByteArray.size_append]; omega
                have HF : Hid (byL (s ++ (mk ++ xn ++ ⟨#[61]⟩ ++ xv)) = txtF fs ++ mkd 32 46 (ps.map byL) ++ mkd 32 44 ((es.take (k + 1)).map labTxt)) := Lib.hid (by
                  rw [HX.out, mkd_snoc, byL_app, byL_app, byL_app, byL_app, HS.out, HM.out]
                  simp [labTxt, nmL, vlL, byL])
                have HG : Hid (byL ⟨#[44]⟩ = [if (es.take (k + 1)).map labTxt = [] then 32 else 44]) := Lib.hid (by
                  rw [HX.out, if_neg (by simp)]; rfl)
                have hq1 : ¬ 9223372036854775807 < mk.size + xn.size := by omega
                have hq2 : ¬ 9223372036854775807 < mk.size + xn.size + 1 := by omega
                have hq3 : ¬ 9223372036854775807 < mk.size + xn.size + 1 + xv.size := by omega
                have hq4 : ¬ 9223372036854775807 < s.size + (mk.size + xn.size + 1 + xv.size) := by omega
                have hr1 : ¬ 9223372036854775807 < 1 + xn.size := by omega
                have hr2 : ¬ 9223372036854775807 < 1 + xn.size + 1 := by omega
                have hr3 : ¬ 9223372036854775807 < 1 + xn.size + 1 + xv.size := by omega
                have hr4 : ¬ 9223372036854775807 < s.size + (1 + xn.size + 1 + xv.size) := by omega
                clear HS HM HX hx
                go_wp2_with fail
                go_quiet (fail)
                go_wp2_with fail
                exact ⟨⟨bl_drewN hbw _, k + 1, s ++ (mk ++ xn ++ ⟨#[61]⟩ ++ xv), ⟨#[44]⟩, by omega, rfl, rfl, rfl, rfl, hsz, HF, HG⟩, by (simp only [intOf]; omega)⟩
              · have hdk : decide ((k : Int) < (es.length : Int)) = false := decide_eq_false (by omega)
                have hke : k = es.length := by omega
                have HR : Hid (s = mkS (txtR ⟨fs, ps, es⟩)) := Lib.hid (by
                  have := HS.out
                  rw [hke, List.take_length, HT.out] at this
                  rw [← this]
                  exact (mkS_data s).symm)
                clear HS HM hke
                go_wp2_with fail
                go_ret
                exact ⟨ret_str HR.out, bl_any hb0 hbw⟩
end
section
/-- All bytes are a node's. -/
def nodeAll (l : List UInt8) : Bool := l.all fun c => dtNode c.toNat
def lettC (c : Int) : Bool := decide (97 ≤ c) && decide (c ≤ 122) || decide (65 ≤ c) && decide (c ≤ 90)
theorem lettD_any (c : Int) (w : World) : Calls Tryz.prog 56 #[.int .u8 c] w fun e w' => e = .returned (.bool (lettC c)) ∧ w = w' := by
  go_enter Tryz.func56, Tryz.ntmps56
  go_wp2_with fail
  all_goals go_ret
  all_goals refine ⟨ret_bool (bcl ?_), rfl⟩
  all_goals simp [lettC]
  all_goals try omega
theorem digD_any (c : Int) (w : World) : Calls Tryz.prog 57 #[.int .u8 c] w fun e w' => e = .returned (.bool (decide (48 ≤ c ∧ c ≤ 57))) ∧ w = w' := by
  go_enter Tryz.func57, Tryz.ntmps57
  go_wp2_with fail
  all_goals go_ret
  all_goals refine ⟨ret_bool (bcl ?_), rfl⟩
  all_goals simp
  all_goals try omega
set_option maxHeartbeats 800000 in
theorem legalD_any (s : ByteArray) (k : Nat) (w : World) (h1 : k < s.size) :
    Calls Tryz.prog 29 #[.int .i64 3, .int .i64 1, .string s, .int .i64 k] w fun e w' => e = .returned (.bool (dtNode (bt s.data.toList k))) ∧ w = w' := by
  have Hc := Lib.hid (getElem_bt h1)
  have h0 : (0 : Int) ≤ k := by omega
  have h2 : (k : Int) < s.size := by omega
  have Hd : ∀ c : Int, Hid (dtNode c = (lettC c || (decide (48 ≤ c ∧ c ≤ 57) || (c == 95 || (c == 45 || c == 58))))) := fun c => Lib.hid (by
    apply bcl
    unfold dtNode lettC letB digB
    simp)
  go_enter Tryz.func29, Tryz.ntmps29
  go_wp2_with (first
    | (go_at_call 56; refine (lettD_any _ _).mono ?_; rintro e w1 ⟨rfl, rfl⟩)
    | (go_at_call 57; refine (digD_any _ _).mono ?_; rintro e w1 ⟨rfl, rfl⟩))
  all_goals go_ret
  all_goals refine ⟨ret_bool (bcl ?_), rfl⟩
  all_goals rw [← Hc.out, (Hd _).out]
  all_goals simp only [lettC, Bool.or_eq_true, Bool.and_eq_true, decide_eq_true_eq, Bool.false_eq_true, false_and, or_false, ne_eq, beq_iff_eq, beq_eq_false_iff_ne] at *
  all_goals first | omega | (simp [*]; done) | (simp; omega) | (simp [*]; omega)
set_option maxHeartbeats 800000 in
theorem badD_any (s : ByteArray) (w : World) (h2 : s.size ≤ 9223372036854775807) :
    Calls Tryz.prog 14 #[.int .i64 3, .int .i64 1, .string s] w fun e w' => (∃ v : Int, e = .returned (.int .i64 v) ∧ decide (0 ≤ v) = !(nodeAll s.data.toList)) ∧ w = w' := by
  have HL : Hid (s.data.toList.length = s.size) := Lib.hid (by simp)
  go_enter Tryz.func14, Tryz.ntmps14
  go_wp2_with fail
  go_loop [7] (fun i => ∃ k : Nat, k ≤ s.size ∧ i = .int .i64 k ∧ Hid (∀ j, j < k → dtNode (bt s.data.toList j) = true)) (fun i => s.size - (intOf i).toNat)
  case atStart => exact ⟨0, by omega, rfl, Lib.hid (fun j h => by omega)⟩
  case round =>
    obtain ⟨k, hk, rfl, HG⟩ := hrel
    by_cases hlt : k < s.size
    · have hd : decide ((k : Int) < s.size) = true := decide_eq_true (by omega)
      have hk0 : (0 : Int) ≤ k := by omega
      have hk1 : (k : Int) < s.size := by omega
      have kL := fun W => legalD_any s k W hlt
      cases hp : dtNode (bt s.data.toList k)
      · rw [hp] at kL
        have HF : Hid (nodeAll s.data.toList = false) := Lib.hid (by
          unfold nodeAll
          rw [List.all_eq_false]
          have hl : k < s.data.toList.length := by rw [HL.out]; exact hlt
          exact ⟨s.data.toList[k], List.getElem_mem hl, by rw [← bt_get hl, hp]; simp⟩)
        clear hp HG
        go_wp2_with (go_at_call 29; (with_reducible refine (kL _).mono ?_); rintro e w1 ⟨rfl, rfl⟩)
        go_ret
        exact ⟨⟨k, rfl, by rw [HF.out]; exact decide_eq_true (by omega)⟩, rfl⟩
      · rw [hp] at kL
        have HF : Hid (∀ j, j < k + 1 → dtNode (bt s.data.toList j) = true) := Lib.hid (fun j hj => by
          by_cases e : j = k
          · rw [e]; exact hp
          · exact HG.out j (by omega))
        clear hp HG
        go_wp2_with (go_at_call 29; (with_reducible refine (kL _).mono ?_); rintro e w1 ⟨rfl, rfl⟩)
        exact ⟨⟨k + 1, by omega, rfl, HF⟩, by (simp only [intOf]; omega)⟩
    · have hd : decide ((k : Int) < s.size) = false := decide_eq_false (by omega)
      have HF : Hid (nodeAll s.data.toList = true) := Lib.hid (by
        unfold nodeAll
        rw [List.all_eq_true]
        intro c hc
        obtain ⟨j, hj, rfl⟩ := List.getElem_of_mem hc
        rw [← bt_get hj]
        exact HG.out j (by rw [HL.out] at hj; omega))
      clear HG
      go_wp2_with fail
      go_ret
      exact ⟨⟨-1, rfl, by rw [HF.out]; rfl⟩, rfl⟩
end
section
def fairOne (r : MRule) : Bool := decide (r.filter.length ≤ 20) && (decide (r.parts.length ≤ 20) && decide (r.extra.length ≤ 12))
def fairB (rs : List MRule) : Bool := rs.all fairOne && decide (rs.length ≤ 8)
set_option maxRecDepth 100000 in
set_option maxHeartbeats 1600000 in
theorem fair_any (A : Option Addr) (n cap B : Nat) (xs : List VRule) (w : World) (hl : IsRows ruleCell 3 w B A n xs) (hn : n ≤ 9223372036854775807) :
    Calls Tryz.prog 9 #[.slice A n cap] w fun e w' => e = .returned (.bool (fairB (xs.map VRule.rule))) ∧ w = w' := by
  have hll := hl.1
  go_enter Tryz.func9, Tryz.ntmps9
  go_wp2_with fail
  go_loop [3] (fun i => ∃ k : Nat, k ≤ n ∧ i = .int .i64 k ∧ Hid (∀ j x, j < k → xs[j]? = some x → fairOne x.rule = true)) (fun i => n - (intOf i).toNat)
  case atStart => exact ⟨0, by omega, rfl, Lib.hid (fun j x h => by omega)⟩
  case round =>
    obtain ⟨k, hk, rfl, HG⟩ := hrel
    by_cases hlt : k < n
    · have hdk : decide ((k : Int) < (n : Int)) = true := decide_eq_true (by omega)
      have hk0 : (0 : Int) ≤ k := by omega
      have hk1 : (k : Int) < (n : Int) := by omega
      obtain ⟨b, off, rfl, hb, hcs⟩ := hl.2 (by omega)
      obtain ⟨X, hX⟩ : ∃ X, xs[k]? = some X := ⟨_, List.getElem?_eq_getElem (by omega)⟩
      have q0 : w.cell? ⟨b, off + k * 3, none⟩ = some (.slice X.fA X.rule.filter.length X.fC) := hcs k X 0 _ hX rfl
      have q1 : w.cell? ⟨b, off + k * 3 + 1, none⟩ = some (.slice X.pA X.rule.parts.length X.pC) := hcs k X 1 _ hX rfl
      have q2 : w.cell? ⟨b, off + k * 3 + 2, none⟩ = some (.slice X.eA X.rule.extra.length X.eC) := hcs k X 2 _ hX rfl
      have HO : Hid (fairOne X.rule = (decide (X.rule.filter.length ≤ 20) && (decide (X.rule.parts.length ≤ 20) && decide (X.rule.extra.length ≤ 12)))) := Lib.hid rfl
      have HN : fairOne X.rule = false → Hid (fairB (xs.map VRule.rule) = false) := fun h => Lib.hid (by
        unfold fairB
        have : (xs.map VRule.rule).all fairOne = false := List.all_eq_false.2 ⟨X.rule, List.mem_map.2 ⟨X, List.mem_of_getElem? hX, rfl⟩, by rw [h]; simp⟩
        rw [this]; rfl)
      have HY : fairOne X.rule = true → Hid (∀ j x, j < k + 1 → xs[j]? = some x → fairOne x.rule = true) := fun h => Lib.hid (fun j y hj hy => by
        by_cases e : j = k
        · subst e; rw [hX] at hy; injection hy with hy; rw [← hy]; exact h
        · exact HG.out j y (by omega) hy)
      clear HG hcs hX
      by_cases h1 : X.rule.filter.length ≤ 20
      · have d1 : decide ((20 : Int) < (X.rule.filter.length : Int)) = false := decide_eq_false (by omega)
        by_cases h2 : X.rule.parts.length ≤ 20
        · have d2 : decide ((20 : Int) < (X.rule.parts.length : Int)) = false := decide_eq_false (by omega)
          by_cases h3 : X.rule.extra.length ≤ 12
          · have d3 : decide ((12 : Int) < (X.rule.extra.length : Int)) = false := decide_eq_false (by omega)
            have HF := HY (by rw [HO.out]; simp [h1, h2, h3])
            clear HN HY HO h1 h2 h3
            go_wp2_with fail
            exact ⟨⟨k + 1, by omega, rfl, HF⟩, by (simp only [intOf]; omega)⟩
          · have d3 : decide ((12 : Int) < (X.rule.extra.length : Int)) = true := decide_eq_true (by omega)
            have HF := HN (by rw [HO.out]; simp [h3])
            clear HN HY HO h1 h2 h3
            go_wp2_with fail
            go_ret
            exact ⟨ret_bool HF.out.symm, rfl⟩
        · have d2 : decide ((20 : Int) < (X.rule.parts.length : Int)) = true := decide_eq_true (by omega)
          have HF := HN (by rw [HO.out]; simp [h2])
          clear HN HY HO h1 h2
          go_wp2_with fail
          go_ret
          exact ⟨ret_bool HF.out.symm, rfl⟩
      · have d1 : decide ((20 : Int) < (X.rule.filter.length : Int)) = true := decide_eq_true (by omega)
        have HF := HN (by rw [HO.out]; simp [h1])
        clear HN HY HO h1
        go_wp2_with fail
        go_ret
        exact ⟨ret_bool HF.out.symm, rfl⟩
    · have hdk : decide ((k : Int) < (n : Int)) = false := decide_eq_false (by omega)
      have h8 : decide ((n : Int) ≤ 8) = decide (n ≤ 8) := decide_eq_decide.2 (by omega)
      have HF : Hid (fairB (xs.map VRule.rule) = decide (n ≤ 8)) := Lib.hid (by
        unfold fairB
        have : (xs.map VRule.rule).all fairOne = true := List.all_eq_true.2 (fun r hr => by
          obtain ⟨X, hX, rfl⟩ := List.mem_map.1 hr
          obtain ⟨i, hi, rfl⟩ := List.getElem_of_mem hX
          exact HG.out i _ (by omega) (List.getElem?_eq_getElem hi))
        rw [this, List.length_map, hll]; rfl)
      clear HG
      go_wp2_with fail
      go_ret
      exact ⟨ret_bool (by rw [HF.out]), rfl⟩
theorem fair_facts {rs : List MRule} (h : fairB rs = true) : rs.length ≤ 8 ∧ ∀ r ∈ rs, r.filter.length ≤ 20 ∧ r.parts.length ≤ 20 ∧ r.extra.length ≤ 12 := by
  unfold fairB fairOne at h
  simp only [Bool.and_eq_true, List.all_eq_true, decide_eq_true_eq] at h
  exact ⟨h.2, h.1⟩
/-! ### the first rule that matches -/
theorem lbOf_len : ∀ ps ns : List ByteArray, (lbOf ps ns).length ≤ ps.length
  | [], ns => by simp [lbOf]
  | p :: ps, ns => by
    have ih := lbOf_len ps ns.tail
    rw [lbOf]
    split <;> simp <;> omega
theorem take_len {r : MRule} (h : goodR r = true) (p : ByteArray) : (takeT r p).2.length ≤ 20 := by
  have hl := good_lens h
  have e : (takeT r p).2 = (sortL (r.extra ++ lbOf r.parts (nodesT p))).getD [] := by unfold takeT; rw [takeGo_of]
  rw [e]
  unfold sortL
  have := lbOf_len r.parts (nodesT p)
  split
  · rw [Option.getD_some, (List.mergeSort_perm _ _).length_eq, List.length_append]; omega
  · simp
theorem apply_len (rs : List MRule) (p : ByteArray) : (applyT rs p).2.length ≤ 20 := by
  unfold applyT
  split
  · rename_i r h
    have := List.find?_some h
    exact take_len (match_facts this).1 p
  · simp
section
variable {xs : List VRule} {p : ByteArray} {k : Nat} {X : VRule}
theorem find_skip (h : ∀ j x, j < k → xs[j]? = some x → matchT x.rule p = false) : applyT (xs.map VRule.rule) p = applyT ((xs.drop k).map VRule.rule) p := by
  induction k generalizing xs with
  | zero => simp
  | succ k ih =>
    cases xs with
    | nil => simp
    | cons y r =>
      have h0 := h 0 y (by omega) rfl
      rw [apply_no h0, List.drop_succ_cons]
      exact ih (fun j x hj hx => h (j + 1) x (by omega) (by simpa using hx))
theorem find_at (h : ∀ j x, j < k → xs[j]? = some x → matchT x.rule p = false) (hX : xs[k]? = some X) (hm : matchT X.rule p = true) : applyT ([X].map VRule.rule) p = applyT (xs.map VRule.rule) p := by
  rw [find_skip h, drop_at hX, apply_yes (xs := []) hm, apply_yes hm]
theorem find_out (hX : xs[k]? = some X) (hm : matchT X.rule p = false) : applyT ((xs.take k ++ xs.drop (k + 1)).map VRule.rule) p = applyT (xs.map VRule.rule) p := by
  have e : xs.map VRule.rule = (xs.take k).map VRule.rule ++ X.rule :: (xs.drop (k + 1)).map VRule.rule := by
    rw [← List.map_cons (f := VRule.rule), ← drop_at hX, ← List.map_append, List.take_append_drop]
  rw [e, List.map_append]
  unfold applyT
  rw [List.find?_append, List.find?_append, List.find?_cons, hm]
theorem find_none (h : ∀ x ∈ xs, matchT x.rule p = false) : applyT (xs.map VRule.rule) p = (p, []) := by
  unfold applyT
  have : (xs.map VRule.rule).find? (fun r => matchT r p) = none := List.find?_eq_none.2 (fun r hr => by
    obtain ⟨x, hx, rfl⟩ := List.mem_map.1 hr
    rw [h x hx]; simp)
  rw [this]
end
theorem rules_one (l : List VRule) : ∀ u ∈ l.flatMap ruleCell, u.oneCell' = true := by
  intro u hu
  obtain ⟨x, _, hx⟩ := List.mem_flatMap.1 hu
  simp only [ruleCell, List.mem_cons, List.not_mem_nil, or_false] at hx
  rcases hx with rfl | rfl | rfl <;> rfl
theorem Tryz.infoRule : (Tryz.prog.info? 25).map (fun i => (i.zero, i.size, i.bytes)) = some (some (.agg #[.slice none 0 0, .slice none 0 0, .slice none 0 0]), 3, 72) := by kernel_rfl
set_option maxRecDepth 100000 in
set_option maxHeartbeats 6400000 in
theorem first23_any (A : Option Addr) (n cap : Nat) (xs : List VRule) (p : ByteArray) (m : Int) (w : World) (hl0 : IsRules w A n cap xs) (hm : MxAt w m) :
    Calls Tryz.prog 5 #[.slice A n cap, .string p] w fun e w' => e = .returned (.bool true) ∧ Below w.heap.size w w' := by
  obtain ⟨hl, hr, hnc, hcm⟩ := hl0
  rw [maxLen_is] at hcm
  have hll := hl.1
  have kF := fun W (hb : Below w.heap.size w W) => fair_any A n cap W.heap.size xs W (hl.bel hb) (by omega)
  have kK := known23_any m w hm
  cases hf : fairB (xs.map VRule.rule)
  · rw [hf] at kF
    clear hf hr
    go_enter Tryz.func5, Tryz.ntmps5
    go_wp2_with (first
      | (go_at_call 8; (with_reducible refine kK.mono ?_); rintro e w1 ⟨rfl, hb1⟩)
      | (go_at_call 9; (with_reducible refine (kF _ hb1).mono ?_); rintro e w2 ⟨rfl, rfl⟩))
    go_ret
    exact ⟨rfl, hb1⟩
  rw [hf] at kF
  obtain ⟨h8, hlen⟩ := fair_facts hf
  rw [List.length_map, hll] at h8
  have HR : Hid (∀ x ∈ xs, RuleAt w w.heap.size x ∧ RuleOk x.rule) := Lib.hid (fun x hx => by
    have := hlen x.rule (List.mem_map.2 ⟨x, hx, rfl⟩)
    exact ⟨(hr x hx).a, (hr x hx).i.ok (by omega) (by omega) (by omega)⟩)
  clear hlen hr hf
  by_cases hp2 : p.size ≤ 200
  case neg =>
    have dp : decide ((200 : Int) < (p.size : Int)) = true := decide_eq_true (by omega)
    go_enter Tryz.func5, Tryz.ntmps5
    go_wp2_with (first
      | (go_at_call 8; (with_reducible refine kK.mono ?_); rintro e w1 ⟨rfl, hb1⟩)
      | (go_at_call 9; (with_reducible refine (kF _ hb1).mono ?_); rintro e w2 ⟨rfl, rfl⟩))
    go_ret
    exact ⟨rfl, hb1⟩
  have dp : decide ((200 : Int) < (p.size : Int)) = false := decide_eq_false (by omega)
  have kA := fun W (hb : Below w.heap.size w W) => apply_any A n cap xs p m W (hl.bel hb) (fun x hx => ⟨(HR.out x hx).1.bel hb, (HR.out x hx).2⟩) (by omega) (hm.below hb) (by omega)
  obtain ⟨R, hRe⟩ : ∃ R, applyT (xs.map VRule.rule) p = R := ⟨_, rfl⟩
  have hRl : R.2.length ≤ 20 := hRe ▸ apply_len _ _
  rw [hRe] at kA
  have HE := Lib.hid hRe
  clear hRe
  obtain ⟨r1, r2⟩ := R
  simp only at hRl
  have hs1 : (r1.toList == r1.toList) = true := beq_self_eq_true _
  have hs2 : (r1.toList != r1.toList) = false := by rw [bne, hs1]; rfl
  have kS := fun (A1 : Option Addr) (n1 c1 : Nat) (A2 : Option Addr) (n2 c2 : Nat) (W : World) (h1 : IsRows labCell 2 W W.heap.size A1 n1 r2) (h2 : IsRows labCell 2 W W.heap.size A2 n2 r2) => refSame_any A1 n1 c1 r2 A2 n2 c2 r2 W h1 (by rw [← h1.1]; omega) h2 (by rw [← h2.1]; omega)
  rw [(sameB_iff r2 r2).2 rfl] at kS
  go_enter Tryz.func5, Tryz.ntmps5
  go_wp2_with (first
    | (go_at_call 8; (with_reducible refine kK.mono ?_); rintro e w1 ⟨rfl, hb1⟩)
    | (go_at_call 9; (with_reducible refine (kF _ hb1).mono ?_); rintro e w2 ⟨rfl, rfl⟩)
    | (go_at_call 11; (with_reducible refine (kA _ hb1).mono ?_); rintro e w3 ⟨⟨A3, n3, c3, rfl, hr3⟩, hb3⟩))
  have hB3 := bl_any hb1 hb3
  clear kA kF kK hb1 hb3
  go_loopw [7] (fun i wr => Below w3.heap.size w3 wr ∧ ∃ k : Nat, k ≤ n ∧ i = .int .i64 k ∧ Hid (∀ j x, j < k → xs[j]? = some x → matchT x.rule p = false)) (fun i _ => n - (intOf i).toNat)
  case atStart => exact ⟨Below.refl _ _, 0, by omega, rfl, Lib.hid (fun j x h => by omega)⟩
  case round =>
    obtain ⟨hbw, k, hk, rfl, HG⟩ := hrel
    have hBr := bl_any hB3 hbw
    have hr3r := hr3.bel hbw
    by_cases hlt : k < n
    · have hdk : decide ((k : Int) < (n : Int)) = true := decide_eq_true (by omega)
      have hk0 : (0 : Int) ≤ k := by omega
      have hk1 : (k : Int) < (n : Int) := by omega
      have hlr := hl.bel hBr
      obtain ⟨b, off, rfl, hb, hcs⟩ := hlr.2 (by omega)
      obtain ⟨X, hX⟩ : ∃ X, xs[k]? = some X := ⟨_, List.getElem?_eq_getElem (by omega)⟩
      obtain ⟨hra, hok⟩ := HR.out X (List.mem_of_getElem? hX)
      have q0 : wr.cell? ⟨b, off + k * 3, none⟩ = some (.slice X.fA X.rule.filter.length X.fC) := hcs k X 0 _ hX rfl
      have q1 : wr.cell? ⟨b, off + k * 3 + 1, none⟩ = some (.slice X.pA X.rule.parts.length X.pC) := hcs k X 1 _ hX rfl
      have q2 : wr.cell? ⟨b, off + k * 3 + 2, none⟩ = some (.slice X.eA X.rule.extra.length X.eC) := hcs k X 2 _ hX rfl
      have kM := match_any X p m wr (hra.bel hBr) hok (hm.below hBr) (by omega)
      clear hcs
      cases hq : matchT X.rule p
      · rw [hq] at kM
        have HF : Hid (∀ j x, j < k + 1 → xs[j]? = some x → matchT x.rule p = false) := Lib.hid (fun j y hj hy => by
          by_cases e : j = k
          · subst e; rw [hX] at hy; injection hy with hy; rw [← hy]; exact hq
          · exact HG.out j y (by omega) hy)
        have HL : Hid (applyT ((xs.take k ++ xs.drop (k + 1)).map VRule.rule) p = (r1, r2)) := Lib.hid ((find_out hX hq).trans HE.out)
        clear HG HE hX hq hra hok
        obtain ⟨i0, hi0, iz0, hz1, hz2⟩ := info_parts Tryz.infoRule
        have hu : Tryz.prog.underlying 28 = some (.slice 25) := by kernel_rfl
        have hq1 : IntKind.i64.wrap ((k : Int) + 1) = (k : Int) + 1 := IntWalk.i64_in _ (by omega)
        have hq2 : (0 : Int) ≤ (k : Int) + 1 := by omega
        have hq3 : (k : Int) + 1 ≤ (n : Int) := by omega
        have hq4 : (k : Int) ≤ (n : Int) := by omega
        have hq5 : (k : Int) ≤ (cap : Int) := by omega
        have hq6 : ((k : Int) + 1).toNat = k + 1 := by omega
        have hq7 : (n : Int) ≤ (cap : Int) := by omega
        have kA2 : ∀ (A7 : Option Addr) (c7 : Nat) (W : World), Below w.heap.size w W → IsRows ruleCell 3 W W.heap.size A7 (k + (n - (k + 1))) (xs.take k ++ xs.drop (k + 1)) → Calls Tryz.prog 11 #[.slice A7 (k + (n - (k + 1))) c7, .string p] W fun e w' => ApplyE W w' (r1, r2) e := fun A7 c7 W hb hr7 => by
          have := apply_any A7 _ c7 (xs.take k ++ xs.drop (k + 1)) p m W hr7 (fun x hx => by
            have hx2 : x ∈ xs := by
              rcases List.mem_append.1 hx with h | h
              · exact List.mem_of_mem_take h
              · exact List.mem_of_mem_drop h
            exact ⟨(HR.out x hx2).1.bel hb, (HR.out x hx2).2⟩) (by omega) (hm.below hb) (by omega)
          rwa [HL.out] at this
        go_wp2_with (go_at_call 10; (with_reducible refine kM.mono ?_); rintro e w4 ⟨rfl, hb4⟩)
        have hB4 := bl_any hBr hb4
        have hl4 := hl.bel hB4
        have hto : IsRows ruleCell 3 w4 w4.heap.size (some ⟨b, off, none⟩) k (xs.take k) := rows_to k (by omega) hl4
        have hcut : IsRows ruleCell 3 w4 w4.heap.size (some ⟨b, off + (k + 1) * 3, none⟩) (n - (k + 1)) (xs.drop (k + 1)) := rows_cut (k + 1) hl4
        have hW0 : Below w4.heap.size w4 w4 := Below.refl _ _
        clear HL kM q0 q1 q2 hlt
        by_cases hck : cap = k + 1
        · have hn0 : n - (k + 1) = 0 := by omega
          have hd0 : xs.drop (k + 1) = [] := List.drop_of_length_le (by omega)
          have hcut : IsRows ruleCell 3 w4 w4.heap.size (some ⟨b, off, none⟩) (n - (k + 1)) (xs.drop (k + 1)) := ⟨by rw [hn0, hd0]; rfl, fun h => absurd h (by omega)⟩
          have hck2 : (cap = k + 1) = True := eq_true hck
          clear hck hn0 hd0
          go_region_held3 (fun w' => Below w4.heap.size w4 w') ((repeat (first | assumption | refine Below.drew ?_ | refine bl_drewN ?_ _ | refine bl_alloc ?_ _))) (first
            | (refine step_append_any _ (by rfl) (.const (.slice none 0 0)) (.tmp 44) _ (by rfl) w4.heap.size 25 i0 _ 3 72 hu hi0 iz0 hz1 hz2 rfl (by omega) _ 0 [] (by rfl) (World.ownsRow_nil _ _ _ _) w4.heap.size _ k _ _ (by rfl) ((rows_reads (f := ruleCell) (fun _ => rfl) (by decide) hto).below ‹Below w4.heap.size w4 _›) (rules_one _) (by first | (simp [maxLen]; done) | (simp [maxLen]; omega)) (by omega) (‹Below w4.heap.size w4 _›).size ?_; intro v6 w6 hown6 hg6 hat6; have hB6 : Below w4.heap.size w4 w6 := Below.grown ‹Below w4.heap.size w4 _› hg6 (‹Below w4.heap.size w4 _›).size (by simp [Value.ownBlock]))
            | (refine step_append_any _ (by rfl) (.tmp 45) (.tmp 49) _ (by rfl) w4.heap.size 25 i0 _ 3 72 hu hi0 iz0 hz1 hz2 rfl (by omega) v6 (0 + k) _ (by rfl) hown6 w4.heap.size _ (n - (k + 1)) _ _ (by rfl) ((rows_reads (f := ruleCell) (fun _ => rfl) (by decide) hcut).below hB6) (rules_one _) (by first | (simp [maxLen]; done) | (simp [maxLen]; omega)) (by omega) hB6.size ?_; intro v7 w7 hown7 hg7 hat7; have hB7 : Below w4.heap.size w4 w7 := Below.grown hB6 hg7 hB6.size (fun j e => (hown6.lt _ e).1); rw [Nat.zero_add, List.nil_append, ← List.flatMap_append] at hown7; obtain ⟨A7, cap7, rfl, hr7⟩ := own_rws (f := ruleCell) (fun _ => rfl) hown7 (by rw [List.length_append, List.length_take, List.length_drop, hll]; omega))
            | (go_at_call 11; (with_reducible refine (kA2 _ _ _ (bl_any hB4 hB7) hr7).mono ?_); rintro e w8 ⟨⟨A8, n8, c8, rfl, hr8⟩, hb8⟩; have hB8 := bl_any hB7 hb8)
            | fail)
          all_goals
            have hs3 := (hr3r.bel hb4).bel hB8
            go_wp2_with (go_at_call 16; (with_reducible refine (kS _ _ _ _ _ _ _ (by first | exact hs3 | exact hr8) (by first | exact hr8 | exact hs3)).mono ?_); rintro e w9 ⟨rfl, hb9⟩)
            exact ⟨⟨bl_any hbw (bl_any hb4 (bl_any hB8 hb9)), k + 1, by omega, rfl, HF⟩, by (simp only [intOf]; omega)⟩
        · go_region_held3 (fun w' => Below w4.heap.size w4 w') ((repeat (first | assumption | refine Below.drew ?_ | refine bl_drewN ?_ _ | refine bl_alloc ?_ _))) (first
            | (refine step_append_any _ (by rfl) (.const (.slice none 0 0)) (.tmp 44) _ (by rfl) w4.heap.size 25 i0 _ 3 72 hu hi0 iz0 hz1 hz2 rfl (by omega) _ 0 [] (by rfl) (World.ownsRow_nil _ _ _ _) w4.heap.size _ k _ _ (by rfl) ((rows_reads (f := ruleCell) (fun _ => rfl) (by decide) hto).below ‹Below w4.heap.size w4 _›) (rules_one _) (by first | (simp [maxLen]; done) | (simp [maxLen]; omega)) (by omega) (‹Below w4.heap.size w4 _›).size ?_; intro v6 w6 hown6 hg6 hat6; have hB6 : Below w4.heap.size w4 w6 := Below.grown ‹Below w4.heap.size w4 _› hg6 (‹Below w4.heap.size w4 _›).size (by simp [Value.ownBlock]))
            | (refine step_append_any _ (by rfl) (.tmp 45) (.tmp 49) _ (by rfl) w4.heap.size 25 i0 _ 3 72 hu hi0 iz0 hz1 hz2 rfl (by omega) v6 (0 + k) _ (by rfl) hown6 w4.heap.size _ (n - (k + 1)) _ _ (by rfl) ((rows_reads (f := ruleCell) (fun _ => rfl) (by decide) hcut).below hB6) (rules_one _) (by first | (simp [maxLen]; done) | (simp [maxLen]; omega)) (by omega) hB6.size ?_; intro v7 w7 hown7 hg7 hat7; have hB7 : Below w4.heap.size w4 w7 := Below.grown hB6 hg7 hB6.size (fun j e => (hown6.lt _ e).1); rw [Nat.zero_add, List.nil_append, ← List.flatMap_append] at hown7; obtain ⟨A7, cap7, rfl, hr7⟩ := own_rws (f := ruleCell) (fun _ => rfl) hown7 (by rw [List.length_append, List.length_take, List.length_drop, hll]; omega))
            | (go_at_call 11; (with_reducible refine (kA2 _ _ _ (bl_any hB4 hB7) hr7).mono ?_); rintro e w8 ⟨⟨A8, n8, c8, rfl, hr8⟩, hb8⟩; have hB8 := bl_any hB7 hb8)
            | fail)
          all_goals
            have hs3 := (hr3r.bel hb4).bel hB8
            go_wp2_with (go_at_call 16; (with_reducible refine (kS _ _ _ _ _ _ _ (by first | exact hs3 | exact hr8) (by first | exact hr8 | exact hs3)).mono ?_); rintro e w9 ⟨rfl, hb9⟩)
            exact ⟨⟨bl_any hbw (bl_any hb4 (bl_any hB8 hb9)), k + 1, by omega, rfl, HF⟩, by (simp only [intOf]; omega)⟩
      · rw [hq] at kM
        have HL : Hid (applyT ([X].map VRule.rule) p = (r1, r2)) := Lib.hid ((find_at HG.out hX hq).trans HE.out)
        have kG := fun W (hb : Below w.heap.size w W) => tgood_any X W (hra.bel hb) hok
        rw [(match_facts hq).1] at kG
        have hq1 : IntKind.i64.wrap ((k : Int) + 1) = (k : Int) + 1 := IntWalk.i64_in _ (by omega)
        have hq2 : (0 : Int) ≤ (k : Int) + 1 := by omega
        have hq3 : (k : Int) + 1 ≤ (n : Int) := by omega
        have hq5 : (k : Int) + 1 ≤ (cap : Int) := by omega
        have hq6 : ((k : Int) + 1).toNat = k + 1 := by omega
        have hq8 : (k : Int) ≤ (k : Int) + 1 := by omega
        have hck : ¬ cap = k := by omega
        have hone : ∀ W, Below w.heap.size w W → IsRows ruleCell 3 W W.heap.size (some ⟨b, off + k * 3, none⟩) 1 [X] := fun W hb => by
          have h1 : IsRows ruleCell 3 W W.heap.size (some ⟨b, off + k * 3, none⟩) (n - k) (xs.drop k) := rows_cut k (hl.bel hb)
          have h2 := rows_to 1 (by omega) h1
          rw [drop_at hX] at h2
          exact h2
        have kA1 : ∀ (c7 : Nat) (W : World), Below w.heap.size w W → Calls Tryz.prog 11 #[.slice (some ⟨b, off + k * 3, none⟩) 1 c7, .string p] W fun e w' => ApplyE W w' (r1, r2) e := fun c7 W hb => by
          have := apply_any _ 1 c7 [X] p m W (hone W hb) (fun x hx => by
            rw [List.mem_singleton] at hx; subst hx
            exact ⟨hra.bel hb, hok⟩) (by omega) (hm.below hb) (by omega)
          rwa [HL.out] at this
        clear HL HG HE hX hq
        go_wp2_with (first
          | (go_at_call 10; (with_reducible refine kM.mono ?_); rintro e w4 ⟨rfl, hb4⟩; have hB4 := bl_any hBr hb4; have p0 := (hb4.cell (p := ⟨b, off + k * 3, none⟩) hb).trans q0; have p1 := (hb4.cell (p := ⟨b, off + k * 3 + 1, none⟩) hb).trans q1; have p2 := (hb4.cell (p := ⟨b, off + k * 3 + 2, none⟩) hb).trans q2; have hb2 := Nat.lt_of_lt_of_le hb hb4.size)
          | (go_at_call 11; (with_reducible refine (kA1 _ _ hB4).mono ?_); rintro e w5 ⟨⟨A8, n8, c8, rfl, hr8⟩, hb5⟩; have hB5 := bl_any hB4 hb5; have p3 := (hb5.cell (p := ⟨b, off + k * 3, none⟩) hb2).trans p0; have p4 := (hb5.cell (p := ⟨b, off + k * 3 + 1, none⟩) hb2).trans p1; have p5 := (hb5.cell (p := ⟨b, off + k * 3 + 2, none⟩) hb2).trans p2)
          | (go_at_call 17; (with_reducible refine (kG _ hB5).mono ?_); rintro e w6 ⟨rfl, hb6⟩; have hB6 := bl_any hB5 hb6; have hs3 := ((hr3r.bel hb4).bel hb5).bel hb6; have hr9 := hr8.bel hb6)
          | (go_at_call 16; (with_reducible refine (kS _ _ _ _ _ _ _ (by first | exact hs3 | exact hr9) (by first | exact hr9 | exact hs3)).mono ?_); rintro e w9 ⟨rfl, hb9⟩))
        go_ret
        exact ⟨rfl, bl_any hB6 hb9⟩
    · have hdk : decide ((k : Int) < (n : Int)) = false := decide_eq_false (by omega)
      have hfin : (r1, r2) = (p, []) := by
        rw [← HE.out]
        exact find_none (fun x hx => by
          obtain ⟨i, hi, rfl⟩ := List.getElem_of_mem hx
          exact HG.out i _ (by omega) (List.getElem?_eq_getElem hi))
      injection hfin with e1 e2
      subst e1; subst e2
      obtain rfl : 0 = n3 := hr3.1
      clear HE HG
      go_wp2_with fail
      go_ret
      exact ⟨rfl, hBr⟩
end
section
theorem sep_le (c : UInt8) (M : Nat) : ∀ xs : List (List UInt8), (∀ x ∈ xs, x.length ≤ M) → (sepL c xs).length ≤ xs.length * (M + 1)
  | [], _ => by simp [sepL]
  | [x], h => by
    rw [sep_one]
    have := h x (by simp)
    simp; omega
  | x :: y :: r, h => by
    have ih := sep_le c M (y :: r) (fun z hz => h z (List.mem_cons_of_mem _ hz))
    have hx := h x (by simp)
    rw [sep_two, List.length_append, List.length_cons]
    have e : (x :: y :: r).length = (y :: r).length + 1 := rfl
    rw [e, Nat.add_mul]
    omega
theorem txtR_len {r : MRule} (h : goodR r = true) : (txtR r).length ≤ 4000 := by
  obtain ⟨⟨f1, f2⟩, ⟨p1, p2⟩, ⟨e1, e2⟩⟩ := good_sz h
  have a := sep_le 46 60 (r.filter.map byL) (fun x hx => by
    obtain ⟨y, hy, rfl⟩ := List.mem_map.1 hx
    have := f2 y hy
    simpa [byL] using this)
  have b := sep_le 46 60 (r.parts.map byL) (fun x hx => by
    obtain ⟨y, hy, rfl⟩ := List.mem_map.1 hx
    have := p2 y hy
    simpa [byL] using this)
  have c := sep_le 44 121 (r.extra.map labTxt) (fun x hx => by
    obtain ⟨y, hy, rfl⟩ := List.mem_map.1 hx
    have := e2 y hy
    simp [labTxt, nmL, vlL]; omega)
  rw [List.length_map] at a b c
  have a' : (txtF r.filter).length ≤ 12 * 61 := by
    unfold txtF; split
    · simp
    · refine Nat.le_trans a (Nat.mul_le_mul_right _ f1)
  have b' : (sepL 46 (r.parts.map byL)).length ≤ 12 * 61 := Nat.le_trans b (Nat.mul_le_mul_right _ p1)
  have c' : (txtE r.extra).length ≤ 8 * 122 + 1 := by
    unfold txtE; split
    · simp
    · have := Nat.le_trans c (Nat.mul_le_mul_right (121 + 1) e1)
      rw [List.length_cons]; omega
  unfold txtR
  simp only [List.length_append, List.length_cons]
  omega
theorem lineOf_congr (l m : List UInt8) : ∀ n, (∀ j, j < n → bt l j = bt m j) → lineOf l n = lineOf m n
  | 0, _ => rfl
  | n + 1, h => by
    rw [lineOf, lineOf, h n (by omega), lineOf_congr l m n (fun j hj => h j (by omega))]
theorem bt_app (l m : List UInt8) (j : Nat) (h : j < l.length) : bt (l ++ m) j = bt l j := by
  unfold bt
  rw [List.getD_eq_getElem?_getD, List.getD_eq_getElem?_getD, List.getElem?_append_left h]
/-- A spot at a text's end is told by that text alone. -/
theorem flt_end (s t : ByteArray) : fltO 11 (s ++ t) s.size = fltO 11 s s.size ∧ fltL 11 (s ++ t) s.size = fltL 11 s s.size ∧ fltC 11 (s ++ t) s.size = fltC 11 s s.size := by
  have h1 : clampO (s ++ t).size s.size = s.size := by unfold clampO; rw [ByteArray.size_append]; omega
  have h2 : clampO s.size s.size = s.size := by unfold clampO; omega
  have hd : (s ++ t).data.toList = s.data.toList ++ t.data.toList := byL_app s t
  have hb : ∀ j, j < s.size → bt (s.data.toList ++ t.data.toList) j = bt s.data.toList j := fun j hj => bt_app _ _ j (by simpa using hj)
  unfold fltO fltL fltC spotO spotL spotC
  rw [if_neg (by decide), if_neg (by decide), if_neg (by decide), if_neg (by decide), if_neg (by decide), if_neg (by decide), h1, h2, hd, Int.toNat_natCast, lineOf_congr _ _ _ hb, colOf_congr _ _ _ hb]
  exact ⟨rfl, rfl, rfl⟩
theorem flt_zero (s : ByteArray) : fltO 11 s 0 = 0 ∧ fltL 11 s 0 = 1 ∧ fltC 11 s 0 = 1 := by
  have h1 : clampO s.size 0 = 0 := by unfold clampO; omega
  unfold fltO fltL fltC spotO spotL spotC
  rw [if_neg (by decide), if_neg (by decide), if_neg (by decide), h1]
  exact ⟨rfl, rfl, rfl⟩
/-- The three compilings. -/
theorem comp_one {r : MRule} (hg : goodR r = true) (W : World) : Calls Tryz.prog 15 #[.string (mkS (txtR r))] W fun e w' => (∃ fA fC pA pC eA eC, e = .returned (.tuple #[.agg #[.slice fA r.filter.length fC, .slice pA r.parts.length pC, .slice eA r.extra.length eC], .agg #[.int .i64 0, .int .i64 0, .int .i64 0, .int .i64 0]]) ∧ RuleAt w' w'.heap.size ⟨r, fA, fC, pA, pC, eA, eC⟩) ∧ Below W.heap.size W w' := by
  have hl := txtR_len hg
  have e0 : (mkS (txtR r)).data.toList = txtR r := rfl
  have e1 : (mkS (txtR r)).size = (txtR r).length := rfl
  have h := compile_any (mkS (txtR r)) W (by rw [e1]; omega) (by have := compS_le (mkS (txtR r)).data.toList; rw [e0] at this ⊢; omega)
  rw [e0, compT_text hg] at h
  exact h.mono fun e w' ⟨h1, h2⟩ => ⟨CompE.ok' h1, h2⟩
theorem comp_two {r : MRule} (hg : goodR r = true) (W : World) : Calls Tryz.prog 15 #[.string (mkS (txtR r) ++ ⟨#[59]⟩)] W fun e w' => e = .returned (.tuple #[.agg #[.slice none 0 0, .slice none 0 0, .slice none 0 0], .agg #[.int .i64 11, .int .i64 (fltO 11 (mkS (txtR r)) (mkS (txtR r)).size), .int .i64 (fltL 11 (mkS (txtR r)) (mkS (txtR r)).size), .int .i64 (fltC 11 (mkS (txtR r)) (mkS (txtR r)).size)]]) ∧ Below W.heap.size W w' := by
  have hl := txtR_len hg
  have e0 : (mkS (txtR r) ++ ⟨#[59]⟩).data.toList = txtR r ++ [59] := byL_app _ _
  have e1 : (mkS (txtR r) ++ ⟨#[59]⟩).size = (txtR r).length + 1 := by rw [ByteArray.size_append]; rfl
  have h := compile_any (mkS (txtR r) ++ ⟨#[59]⟩) W (by rw [e1]; omega) (by have := compS_le (mkS (txtR r) ++ ⟨#[59]⟩).data.toList; rw [e0, List.length_append, List.length_singleton] at this; rw [e0]; omega)
  rw [e0, compT_semi hg] at h
  obtain ⟨q1, q2, q3⟩ := flt_end (mkS (txtR r)) ⟨#[59]⟩
  rw [← q1, ← q2, ← q3]
  exact h
theorem comp_three {r : MRule} (hg : goodR r = true) (W : World) : Calls Tryz.prog 15 #[.string (⟨#[32]⟩ ++ mkS (txtR r))] W fun e w' => e = .returned (.tuple #[.agg #[.slice none 0 0, .slice none 0 0, .slice none 0 0], .agg #[.int .i64 11, .int .i64 0, .int .i64 1, .int .i64 1]]) ∧ Below W.heap.size W w' := by
  have hl := txtR_len hg
  have e0 : (⟨#[32]⟩ ++ mkS (txtR r)).data.toList = 32 :: txtR r := byL_app _ _
  have e1 : (⟨#[32]⟩ ++ mkS (txtR r)).size = (txtR r).length + 1 := by rw [ByteArray.size_append]; show 1 + (txtR r).length = _; omega
  have h := compile_any (⟨#[32]⟩ ++ mkS (txtR r)) W (by rw [e1]; omega) (by have := compS_le (⟨#[32]⟩ ++ mkS (txtR r)).data.toList; rw [e0, List.length_cons] at this; rw [e0]; omega)
  rw [e0, compT_space] at h
  obtain ⟨q1, q2, q3⟩ := flt_zero (⟨#[32]⟩ ++ mkS (txtR r))
  refine h.mono fun e w' ⟨h1, h2⟩ => ⟨?_, h2⟩
  have h1' : e = _ := h1
  rw [h1']
  show Ending.returned (.tuple #[_, .agg #[.int .i64 11, .int .i64 (fltO 11 (⟨#[32]⟩ ++ mkS (txtR r)) 0), .int .i64 (fltL 11 (⟨#[32]⟩ ++ mkS (txtR r)) 0), .int .i64 (fltC 11 (⟨#[32]⟩ ++ mkS (txtR r)) 0)]]) = _
  rw [q1, q2, q3]
/-- Blocks that stay. -/
structure TX (w W : World) (fA : Option Addr) (fn fC : Nat) (pA : Option Addr) (pn pC : Nat) (eA : Option Addr) (en eC : Nat) : Prop where
  r : Blk W w.heap.size 25 #[.slice fA fn fC, .slice pA pn pC, .slice eA en eC]
  bl : Below w.heap.size w W
section
variable {w W W' : World} {fA pA eA : Option Addr} {fn fC pn pC en eC : Nat}
theorem TX.call (h : TX w W fA fn fC pA pn pC eA en eC) (k : Below W.heap.size W W') : TX w W' fA fn fC pA pn pC eA en eC := ⟨h.r.below k (Blk.lt h.r), bl_any h.bl k⟩
theorem TX.alloc (h : TX w W fA fn fC pA pn pC eA en eC) (o : Obj) : TX w (W.alloc o) fA fn fC pA pn pC eA en eC := h.call ((Below.refl _ _).alloc (Nat.le_refl _) o)
theorem TX.drew (h : TX w W fA fn fC pA pn pC eA en eC) : TX w W.drew fA fn fC pA pn pC eA en eC := ⟨h.r, h.bl.drew⟩
theorem TX.fs (h : TX w W fA fn fC pA pn pC eA en eC) : W.cell? ⟨w.heap.size, 0, none⟩ = some (.slice fA fn fC) ∧ W.cell? ⟨w.heap.size, 1, none⟩ = some (.slice pA pn pC) ∧ W.cell? ⟨w.heap.size, 2, none⟩ = some (.slice eA en eC) :=
  ⟨(Blk.cell h.r 0).trans rfl, (Blk.cell h.r 1).trans rfl, (Blk.cell h.r 2).trans rfl⟩
end
theorem blk_two (w : World) (o : Obj) (t : TypeId) (cs : Array Value) : Blk ((w.alloc o).alloc (.cells cs t)) (w.heap.size + 1) t cs := by
  have := Blk.new (w.alloc o) t cs
  simpa using this
theorem blk_call {w w' : World} {g : Nat} {t : TypeId} {cs : Array Value} (h : Blk w g t cs) (hb : Below w.heap.size w w') : Blk w' g t cs := h.below hb (Blk.lt h)
/-- All blocks that the last region reads. -/
structure TY (w w5 W : World) (g6 g7 : Nat) (fA : Option Addr) (fn fC : Nat) (pA : Option Addr) (pn pC : Nat) (eA : Option Addr) (en eC : Nat) (fA2 : Option Addr) (fC2 : Nat) (pA2 : Option Addr) (pC2 : Nat) (eA2 : Option Addr) (eC2 : Nat) (o1 o2 o3 : Int) : Prop where
  x : TX w W fA fn fC pA pn pC eA en eC
  r : Blk W w5.heap.size 25 #[.slice fA2 fn fC2, .slice pA2 pn pC2, .slice eA2 en eC2]
  q5 : Blk W (w5.heap.size + 1) 43 #[.int .i64 0, .int .i64 0, .int .i64 0, .int .i64 0]
  q7 : Blk W (g6 + 1) 43 #[.int .i64 11, .int .i64 o1, .int .i64 o2, .int .i64 o3]
  q9 : Blk W (g7 + 1) 43 #[.int .i64 11, .int .i64 0, .int .i64 1, .int .i64 1]
  b5 : Below w5.heap.size w5 W
section
variable {w w5 W W' : World} {g6 g7 : Nat} {fA pA eA fA2 pA2 eA2 : Option Addr} {fn fC pn pC en eC fC2 pC2 eC2 : Nat} {o1 o2 o3 : Int}
theorem TY.call (h : TY w w5 W g6 g7 fA fn fC pA pn pC eA en eC fA2 fC2 pA2 pC2 eA2 eC2 o1 o2 o3) (k : Below W.heap.size W W') : TY w w5 W' g6 g7 fA fn fC pA pn pC eA en eC fA2 fC2 pA2 pC2 eA2 eC2 o1 o2 o3 :=
  ⟨h.x.call k, blk_call h.r k, blk_call h.q5 k, blk_call h.q7 k, blk_call h.q9 k, bl_any h.b5 k⟩
theorem TY.drew (h : TY w w5 W g6 g7 fA fn fC pA pn pC eA en eC fA2 fC2 pA2 pC2 eA2 eC2 o1 o2 o3) : TY w w5 W.drew g6 g7 fA fn fC pA pn pC eA en eC fA2 fC2 pA2 pC2 eA2 eC2 o1 o2 o3 := h.call (Below.refl _ _).drew
theorem TY.fs (h : TY w w5 W g6 g7 fA fn fC pA pn pC eA en eC fA2 fC2 pA2 pC2 eA2 eC2 o1 o2 o3) :
    (W.cell? ⟨w.heap.size, 0, none⟩ = some (.slice fA fn fC) ∧ W.cell? ⟨w.heap.size, 1, none⟩ = some (.slice pA pn pC) ∧ W.cell? ⟨w.heap.size, 2, none⟩ = some (.slice eA en eC)
    ∧ W.cell? ⟨w5.heap.size, 0, none⟩ = some (.slice fA2 fn fC2) ∧ W.cell? ⟨w5.heap.size, 1, none⟩ = some (.slice pA2 pn pC2) ∧ W.cell? ⟨w5.heap.size, 2, none⟩ = some (.slice eA2 en eC2)
    ∧ W.cell? ⟨w5.heap.size + 1, 0, none⟩ = some (.int .i64 0)
    ∧ W.cell? ⟨g6 + 1, 0, none⟩ = some (.int .i64 11) ∧ W.cell? ⟨g6 + 1, 1, none⟩ = some (.int .i64 o1) ∧ W.cell? ⟨g6 + 1, 2, none⟩ = some (.int .i64 o2) ∧ W.cell? ⟨g6 + 1, 3, none⟩ = some (.int .i64 o3)
    ∧ W.cell? ⟨g7 + 1, 0, none⟩ = some (.int .i64 11) ∧ W.cell? ⟨g7 + 1, 1, none⟩ = some (.int .i64 0) ∧ W.cell? ⟨g7 + 1, 2, none⟩ = some (.int .i64 1) ∧ W.cell? ⟨g7 + 1, 3, none⟩ = some (.int .i64 1))
    ∧ TY w w5 W g6 g7 fA fn fC pA pn pC eA en eC fA2 fC2 pA2 pC2 eA2 eC2 o1 o2 o3 :=
  ⟨⟨h.x.fs.1, h.x.fs.2.1, h.x.fs.2.2, (Blk.cell h.r 0).trans rfl, (Blk.cell h.r 1).trans rfl, (Blk.cell h.r 2).trans rfl, (Blk.cell h.q5 0).trans rfl,
    (Blk.cell h.q7 0).trans rfl, (Blk.cell h.q7 1).trans rfl, (Blk.cell h.q7 2).trans rfl, (Blk.cell h.q7 3).trans rfl,
    (Blk.cell h.q9 0).trans rfl, (Blk.cell h.q9 1).trans rfl, (Blk.cell h.q9 2).trans rfl, (Blk.cell h.q9 3).trans rfl⟩, h⟩
end
set_option maxRecDepth 100000 in
set_option maxHeartbeats 12800000 in
theorem texts23_any (x : VRule) (m : Int) (w : World) (h0 : RuleHere w x) (hm : MxAt w m) :
    Calls Tryz.prog 6 #[.agg #[.slice x.fA x.rule.filter.length x.fC, .slice x.pA x.rule.parts.length x.pC, .slice x.eA x.rule.extra.length x.eC]] w fun e w' => e = .returned (.bool true) ∧ Below w.heap.size w w' := by
  have X0 : TX w (w.alloc (.cells #[.slice x.fA x.rule.filter.length x.fC, .slice x.pA x.rule.parts.length x.pC, .slice x.eA x.rule.extra.length x.eC] 25)) x.fA x.rule.filter.length x.fC x.pA x.rule.parts.length x.pC x.eA x.rule.extra.length x.eC := ⟨Blk.new w _ _, (Below.refl _ _).alloc (Nat.le_refl _) _⟩
  have kK := fun W (hb : Below w.heap.size w W) => known23_any m W (hm.below hb)
  have kF := fun W => fair_any (some ⟨W.heap.size, 0, none⟩) 1 1 _ [x] _ (rule_row x W) (by decide)
  cases hf : fairB ([x].map VRule.rule)
  · rw [hf] at kF
    clear hf
    go_enter Tryz.func6, Tryz.ntmps6
    go_wp2_with (first
      | (go_at_call 8; (with_reducible refine (kK _ X0.bl).mono ?_); rintro e w1 ⟨rfl, hb1⟩; have X1 := X0.call hb1; obtain ⟨c0, c1, c2⟩ := X1.fs)
      | (go_at_call 9; (with_reducible refine (kF _).mono ?_); rintro e w2 ⟨rfl, rfl⟩))
    go_ret
    exact ⟨rfl, bl_alloc X1.bl _⟩
  rw [hf] at kF
  obtain ⟨_, hlen⟩ := fair_facts hf
  have hlen := hlen x.rule (by simp)
  have hok : RuleOk x.rule := h0.i.ok (by omega) (by omega) (by omega)
  have hA := h0.a
  have kG := fun W (hb : Below w.heap.size w W) => tgood_any x W (hA.bel hb) hok
  clear hf h0
  cases hg : goodR x.rule
  · rw [hg] at kG
    clear hg
    go_enter Tryz.func6, Tryz.ntmps6
    go_wp2_with (first
      | (go_at_call 8; (with_reducible refine (kK _ X0.bl).mono ?_); rintro e w1 ⟨rfl, hb1⟩; have X1 := X0.call hb1; obtain ⟨c0, c1, c2⟩ := X1.fs; have X2 := X1.alloc (.cells #[.slice x.fA x.rule.filter.length x.fC, .slice x.pA x.rule.parts.length x.pC, .slice x.eA x.rule.extra.length x.eC] 25))
      | (go_at_call 9; (with_reducible refine (kF _).mono ?_); rintro e w2 ⟨rfl, rfl⟩; obtain ⟨d0, d1, d2⟩ := X2.fs)
      | (go_at_call 17; (with_reducible refine (kG _ X2.bl).mono ?_); rintro e w3 ⟨rfl, hb3⟩))
    go_ret
    exact ⟨rfl, bl_any X2.bl hb3⟩
  rw [hg] at kG
  have hlT := txtR_len hg
  have kT := fun W (hb : Below w.heap.size w W) => rtext_any x W (hA.bel hb) hg
  have k1 := comp_one hg
  have k2 := comp_two hg
  have k3 := comp_three hg
  have kA := fun W => spAt_any 11 (mkS (txtR x.rule)) ((mkS (txtR x.rule)).size : Int) W (by have : (mkS (txtR x.rule)).size = (txtR x.rule).length := rfl; omega)
  have kB := fun W => spAt_any 11 ⟨#[32]⟩ 0 W (by decide)
  obtain ⟨z1, z2, z3⟩ := flt_zero ⟨#[32]⟩
  rw [z1, z2, z3] at kB
  have hsz : (mkS (txtR x.rule)).size ≤ 4000 := hlT
  clear hlT z1 z2 z3
  generalize mkS (txtR x.rule) = s at *
  generalize fltO 11 s s.size = o1 at *
  generalize fltL 11 s s.size = o2 at *
  generalize fltC 11 s s.size = o3 at *
  have hq1 : ¬ 9223372036854775807 < s.size + 1 := by omega
  have hq2 : ¬ 9223372036854775807 < 1 + s.size := by omega
  obtain ⟨⟨fs, ps, es⟩, fA, fC, pA, pC, eA, eC⟩ := x
  simp only at *
  clear hg
  go_enter Tryz.func6, Tryz.ntmps6
  go_upto_region 6 with (first
    | (go_at_call 8; (with_reducible refine (kK _ X0.bl).mono ?_); rintro e w1 ⟨rfl, hb1⟩; have X1 := X0.call hb1; obtain ⟨c0, c1, c2⟩ := X1.fs; have X2 := X1.alloc (.cells #[.slice fA fs.length fC, .slice pA ps.length pC, .slice eA es.length eC] 25))
    | (go_at_call 9; (with_reducible refine (kF _).mono ?_); rintro e w2 ⟨rfl, rfl⟩; obtain ⟨d0, d1, d2⟩ := X2.fs)
    | (go_at_call 17; (with_reducible refine (kG _ X2.bl).mono ?_); rintro e w3 ⟨rfl, hb3⟩; have X3 := X2.call hb3; obtain ⟨e0, e1, e2⟩ := X3.fs)
    | (go_at_call 18; (with_reducible refine (kT _ X3.bl).mono ?_); rintro e w4 ⟨rfl, hb4⟩; have X4 := X3.call hb4))
  clear kK kF kG kT hb1 hb3 hb4 c0 c1 c2 d0 d1 d2 e0 e1 e2 X0 X1 X2 X3
  go_upto_region 9 with (first
    | (go_at_call 15; (with_reducible refine (k1 _).mono ?_); rintro e w5 ⟨⟨fA2, fC2, pA2, pC2, eA2, eC2, rfl, hy⟩, hb5⟩)
    | (go_at_call 15; (with_reducible refine (k2 _).mono ?_); rintro e w6 ⟨rfl, hb6⟩)
    | (go_at_call 15; (with_reducible refine (k3 _).mono ?_); rintro e w7 ⟨rfl, hb7⟩))
  have r5 := (Blk.new w5 25 #[.slice fA2 fs.length fC2, .slice pA2 ps.length pC2, .slice eA2 es.length eC2]).alloc (.cells #[.int .i64 0, .int .i64 0, .int .i64 0, .int .i64 0] 43)
  have q5 := blk_two w5 (.cells #[.slice fA2 fs.length fC2, .slice pA2 ps.length pC2, .slice eA2 es.length eC2] 25) 43 #[.int .i64 0, .int .i64 0, .int .i64 0, .int .i64 0]
  have q7 := blk_two w6 (.cells #[.slice none 0 0, .slice none 0 0, .slice none 0 0] 25) 43 #[.int .i64 11, .int .i64 o1, .int .i64 o2, .int .i64 o3]
  have q9 := blk_two w7 (.cells #[.slice none 0 0, .slice none 0 0, .slice none 0 0] 25) 43 #[.int .i64 11, .int .i64 0, .int .i64 1, .int .i64 1]
  have B6 := bl_alloc (bl_alloc (bl_any (bl_alloc (bl_alloc (Below.refl w5.heap.size w5) (.cells #[.slice fA2 fs.length fC2, .slice pA2 ps.length pC2, .slice eA2 es.length eC2] 25)) (.cells #[.int .i64 0, .int .i64 0, .int .i64 0, .int .i64 0] 43)) hb6) (.cells #[.slice none 0 0, .slice none 0 0, .slice none 0 0] 25)) (.cells #[.int .i64 11, .int .i64 o1, .int .i64 o2, .int .i64 o3] 43)
  have B7 := bl_alloc (bl_alloc (bl_any B6 hb7) (.cells #[.slice none 0 0, .slice none 0 0, .slice none 0 0] 25)) (.cells #[.int .i64 11, .int .i64 0, .int .i64 1, .int .i64 1] 43)
  have Y0 : TY w w5 _ w6.heap.size w7.heap.size fA fs.length fC pA ps.length pC eA es.length eC fA2 fC2 pA2 pC2 eA2 eC2 o1 o2 o3 :=
    ⟨(X4.call hb5).call B7, (((blk_call (((blk_call r5 hb6).alloc _).alloc _) hb7).alloc _).alloc _), (((blk_call (((blk_call q5 hb6).alloc _).alloc _) hb7).alloc _).alloc _), ((blk_call q7 hb7).alloc _).alloc _, q9, B7⟩
  have kSR := fun W (h : TY w w5 W w6.heap.size w7.heap.size fA fs.length fC pA ps.length pC eA es.length eC fA2 fC2 pA2 pC2 eA2 eC2 o1 o2 o3) => sameRule_same fs ps es fA pA eA fA2 pA2 eA2 fC pC eC fC2 pC2 eC2 W (hA.bel h.x.bl) (hy.bel h.b5) (by omega) (by omega) (by omega)
  clear r5 q5 q7 q9 B6 B7 hb5 hb6 hb7 X4 k1 k2 k3 hy
  generalize (w7.alloc (.cells #[.slice none 0 0, .slice none 0 0, .slice none 0 0] 25)).alloc (.cells #[.int .i64 11, .int .i64 0, .int .i64 1, .int .i64 1] 43) = W8 at *
  have hS0 := Y0.drew.fs
  go_region_held3 (fun W => (W.cell? ⟨w.heap.size, 0, none⟩ = some (.slice fA fs.length fC) ∧ W.cell? ⟨w.heap.size, 1, none⟩ = some (.slice pA ps.length pC) ∧ W.cell? ⟨w.heap.size, 2, none⟩ = some (.slice eA es.length eC)
    ∧ W.cell? ⟨w5.heap.size, 0, none⟩ = some (.slice fA2 fs.length fC2) ∧ W.cell? ⟨w5.heap.size, 1, none⟩ = some (.slice pA2 ps.length pC2) ∧ W.cell? ⟨w5.heap.size, 2, none⟩ = some (.slice eA2 es.length eC2)
    ∧ W.cell? ⟨w5.heap.size + 1, 0, none⟩ = some (.int .i64 0)
    ∧ W.cell? ⟨w6.heap.size + 1, 0, none⟩ = some (.int .i64 11) ∧ W.cell? ⟨w6.heap.size + 1, 1, none⟩ = some (.int .i64 o1) ∧ W.cell? ⟨w6.heap.size + 1, 2, none⟩ = some (.int .i64 o2) ∧ W.cell? ⟨w6.heap.size + 1, 3, none⟩ = some (.int .i64 o3)
    ∧ W.cell? ⟨w7.heap.size + 1, 0, none⟩ = some (.int .i64 11) ∧ W.cell? ⟨w7.heap.size + 1, 1, none⟩ = some (.int .i64 0) ∧ W.cell? ⟨w7.heap.size + 1, 2, none⟩ = some (.int .i64 1) ∧ W.cell? ⟨w7.heap.size + 1, 3, none⟩ = some (.int .i64 1))
    ∧ TY w w5 W w6.heap.size w7.heap.size fA fs.length fC pA ps.length pC eA es.length eC fA2 fC2 pA2 pC2 eA2 eC2 o1 o2 o3) (first | (with_reducible assumption) | (with_reducible exact hS0)) (first
    | (go_at_call 19; (with_reducible refine (kSR _ (And.right (by with_reducible assumption))).mono ?_); rintro e w8 ⟨rfl, hb8⟩; have hS8 := (TY.call (And.right (by with_reducible assumption)) hb8).fs)
    | (go_at_call 20; (with_reducible refine (kA _).mono ?_); rintro e w9 ⟨rfl, hb9⟩; have hS9 := (TY.call (And.right (by with_reducible assumption)) hb9).fs)
    | (go_at_call 20; (with_reducible refine (kB _).mono ?_); rintro e w10 ⟨rfl, hb10⟩; have hS10 := (TY.call (And.right (by with_reducible assumption)) hb10).fs)
    | fail)
  all_goals
    rename_i hHeld
    obtain ⟨_, hY⟩ := hHeld
    go_wp2_with fail
    go_ret
    exact ⟨by first | rfl | exact ret_bool (by simp), hY.x.bl⟩
end
end Go.Proofs.YtodgfapgmmjpcaaGreatDoor
