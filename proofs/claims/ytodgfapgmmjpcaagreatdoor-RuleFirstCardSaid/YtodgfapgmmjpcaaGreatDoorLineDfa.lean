/- The line format's machine of states: what the rows' functions answer is its verdict; ends that close each state (no program in sight). -/
import Derived.Test.YtodgfapgmmjpcaaGreatDoorLineDef
import Derived.Test.YtodgfapgmmjpcaaGreatDoorDfa
namespace Go.Proofs.YtodgfapgmmjpcaaGreatDoor
set_option linter.unusedVariables false
set_option linter.unusedSimpArgs false
open Go.RowKit
inductive LQ where
  | line | nm | nmE | tk0 | tk | tkE | tv0 | tv | tvE | tvU (u : UQ) | fk0 | fk | fkE | fv
  | t1 | t2 | t3 | f1 | f2 | f3 | f4 | ve | neg | iM | iP | dot | fr | qq | qE | qU (u : UQ) | tm0 | tmN | tm
def mB (m : List UInt8) (c : Int) : Bool := m.any fun d => c == d.toNat
def reB (m : List UInt8) (c : Int) : Bool := decide (32 < c) && decide (c < 127) && !mB m c
def afterV (c : Int) : Option LQ := if c = 44 then some .fk0 else if c = 32 then some .tm0 else if c = 10 then some .line else none
def stL : LQ → Int → Option LQ
  | .line, c => if c = 35 then none else if c = 92 then some .nmE else if reB inM c then some .nm else none
  | .nm, c => if c = 92 then some .nmE else if reB inM c then some .nm else if c = 44 then some .tk0 else if c = 32 then some .fk0 else none
  | .nmE, c => if mB inM c then some .nm else none
  | .tk0, c => if c = 92 then some .tkE else if reB inK c then some .tk else none
  | .tk, c => if c = 92 then some .tkE else if reB inK c then some .tk else if c = 61 then some .tv0 else none
  | .tkE, c => if mB inK c then some .tk else none
  | .tv0, c => if c = 92 then some .tvE else if 127 < c then (uFirst c).map .tvU else if reB inK c then some .tv else none
  | .tv, c => if c = 92 then some .tvE else if 127 < c then (uFirst c).map .tvU else if reB inK c then some .tv else if c = 44 then some .tk0 else if c = 32 then some .fk0 else none
  | .tvE, c => if mB inK c then some .tv else none
  | .tvU u, c => (uNext u c).map fun o => match o with
    | none => .tv
    | some u' => .tvU u'
  | .fk0, c => if c = 92 then some .fkE else if reB inK c then some .fk else none
  | .fk, c => if c = 92 then some .fkE else if reB inK c then some .fk else if c = 61 then some .fv else none
  | .fkE, c => if mB inK c then some .fk else none
  | .fv, c => if c = 116 then some .t1 else if c = 102 then some .f1 else if c = 34 then some .qq else if c = 45 then some .neg else if digB c then some .iP else none
  | .t1, c => if c = 114 then some .t2 else none
  | .t2, c => if c = 117 then some .t3 else none
  | .t3, c => if c = 101 then some .ve else none
  | .f1, c => if c = 97 then some .f2 else none
  | .f2, c => if c = 108 then some .f3 else none
  | .f3, c => if c = 115 then some .f4 else none
  | .f4, c => if c = 101 then some .ve else none
  | .ve, c => afterV c
  | .neg, c => if digB c then some .iM else none
  | .iM, c => if digB c then some .iM else if c = 105 then some .ve else if c = 46 then some .dot else afterV c
  | .iP, c => if digB c then some .iP else if c = 105 then some .ve else if c = 117 then some .ve else if c = 46 then some .dot else afterV c
  | .dot, c => if digB c then some .fr else none
  | .fr, c => if digB c then some .fr else afterV c
  | .qq, c => if c = 34 then some .ve else if c = 10 then none else if c = 92 then some .qE else if c < 128 then some .qq else (uFirst c).map .qU
  | .qE, c => if mB inT c then some .qq else none
  | .qU u, c => (uNext u c).map fun o => match o with
    | none => .qq
    | some u' => .qU u'
  | .tm0, c => if c = 45 then some .tmN else if digB c then some .tm else none
  | .tmN, c => if digB c then some .tm else none
  | .tm, c => if digB c then some .tm else if c = 10 then some .line else none
def acL : LQ → Bool
  | .line => true
  | _ => false
section
variable {l : List UInt8}
abbrev V (l : List UInt8) (q : LQ) (a : Nat) : Int := vd stL acL l q a
theorem u_tv : UStep stL acL .tv .tvU := ⟨fun _ _ => rfl, fun _ => rfl⟩
theorem u_qq : UStep stL acL .qq .qU := ⟨fun _ _ => rfl, fun _ => rfl⟩
theorem reB_one {m : List UInt8} {c : Int} (h1 : 32 < c) (h2 : c < 127) (h3 : (m.any fun d => c == d.toNat) = false) : reB m c = true := by
  unfold reB mB; simp only [Bool.and_eq_true, decide_eq_true_eq, Bool.not_eq_true']; exact ⟨⟨h1, h2⟩, h3⟩
theorem s_nm : SStep stL acL inM false .nm .nmE (fun _ => .line) := ⟨by simp, rfl, rfl, fun _ => rfl, fun c h1 h2 h3 h4 => by
  show (if c = 92 then _ else _) = _
  rw [if_neg h3, if_pos (reB_one h1 h2 h4)], by simp⟩
theorem s_tk : SStep stL acL inK false .tk .tkE (fun _ => .line) := ⟨by simp, rfl, rfl, fun _ => rfl, fun c h1 h2 h3 h4 => by
  show (if c = 92 then _ else _) = _
  rw [if_neg h3, if_pos (reB_one h1 h2 h4)], by simp⟩
theorem s_fk : SStep stL acL inK false .fk .fkE (fun _ => .line) := ⟨by simp, rfl, rfl, fun _ => rfl, fun c h1 h2 h3 h4 => by
  show (if c = 92 then _ else _) = _
  rw [if_neg h3, if_pos (reB_one h1 h2 h4)], by simp⟩
theorem s_tv : SStep stL acL inK true .tv .tvE .tvU := ⟨fun _ => u_tv, rfl, rfl, fun _ => rfl, fun c h1 h2 h3 h4 => by
  show (if c = 92 then _ else _) = _
  rw [if_neg h3, if_neg (by omega), if_pos (reB_one h1 h2 h4)], fun _ c h => by
  show (if c = 92 then _ else _) = _
  rw [if_neg (by omega), if_pos h]⟩
theorem start_n {m : List UInt8} {T0 T TE : LQ} {c : Int} (h0 : stL T0 c = if c = 92 then some TE else if reB m c then some T else none) (h1 : c = 92 ∨ reB m c = true → stL T c = if c = 92 then some TE else some T) :
    stL T0 c = if c = 92 ∨ (false = true ∧ 127 < c) ∨ (32 < c ∧ c < 127 ∧ (m.any fun d => c == d.toNat) = false) then stL T c else none := by
  have e : (32 < c ∧ c < 127 ∧ (m.any fun d => c == d.toNat) = false) ↔ reB m c = true := by
    unfold reB mB; simp only [Bool.and_eq_true, decide_eq_true_eq, Bool.not_eq_true']; exact ⟨fun h => ⟨⟨h.1, h.2.1⟩, h.2.2⟩, fun h => ⟨h.1.1, h.1.2, h.2⟩⟩
  rw [h0]
  by_cases k : c = 92
  · rw [if_pos k, if_pos (.inl k), h1 (.inl k), if_pos k]
  · rw [if_neg k]
    by_cases k2 : reB m c = true
    · rw [if_pos k2, if_pos (.inr (.inr (e.2 k2))), h1 (.inr k2), if_neg k]
    · rw [if_neg k2, if_neg]
      rintro (h | h | h)
      · exact k h
      · exact absurd h.1 (by decide)
      · exact k2 (e.1 h)
theorem v_nm {a : Nat} (ha : a < l.length) : V l .line a = if (sgn l inM false a (isB l a false 35)).2.2 = true then ((sgn l inM false a (isB l a false 35)).2.1 : Int) else V l .nm (sgn l inM false a (isB l a false 35)).2.1 := by
  cases h : isB l a false 35
  · have hne : bt l a ≠ 35 := fun e => by
      have : isB l a false 35 = true := isB_iff.2 ⟨ha, e⟩
      rw [h] at this; cases this
    refine vd_sgn s_nm (by omega) (.inr ha) (fun _ => start_n (T := .nm) (TE := .nmE) ?_ ?_)
    · show (if bt l a = 35 then _ else _) = _
      rw [if_neg hne]
    · rintro k
      show (if bt l a = 92 then _ else if reB inM (bt l a) = true then _ else _) = _
      rcases k with k | k
      · rw [if_pos k, if_pos k]
      · rw [if_pos k]
  · have := isB_iff.1 h
    have e : sgn l inM false a true = ([], a, true) := rfl
    rw [e]
    exact vd_no ha (by rw [this.2]; rfl)
theorem v_tk {a : Nat} (ha : a ≤ l.length) : V l .tk0 a = if (sgn l inK false a false).2.2 = true then ((sgn l inK false a false).2.1 : Int) else V l .tk (sgn l inK false a false).2.1 :=
  vd_sgn s_tk ha (.inl rfl) (fun _ => start_n (T := .tk) (TE := .tkE) rfl (fun k => by
    show (if bt l a = 92 then _ else if reB inK (bt l a) = true then _ else _) = _
    rcases k with k | k
    · rw [if_pos k, if_pos k]
    · rw [if_pos k]))
theorem v_fk {a : Nat} (ha : a ≤ l.length) : V l .fk0 a = if (sgn l inK false a false).2.2 = true then ((sgn l inK false a false).2.1 : Int) else V l .fk (sgn l inK false a false).2.1 :=
  vd_sgn s_fk ha (.inl rfl) (fun _ => start_n (T := .fk) (TE := .fkE) rfl (fun k => by
    show (if bt l a = 92 then _ else if reB inK (bt l a) = true then _ else _) = _
    rcases k with k | k
    · rw [if_pos k, if_pos k]
    · rw [if_pos k]))
theorem reB_iff {m : List UInt8} {c : Int} : reB m c = true ↔ (32 < c ∧ c < 127 ∧ (m.any fun d => c == d.toNat) = false) := by
  unfold reB mB; simp only [Bool.and_eq_true, decide_eq_true_eq, Bool.not_eq_true']; exact ⟨fun h => ⟨h.1.1, h.1.2, h.2⟩, fun h => ⟨⟨h.1, h.2.1⟩, h.2.2⟩⟩
theorem v_tv {a : Nat} (ha : a ≤ l.length) : V l .tv0 a = if (sgn l inK true a false).2.2 = true then ((sgn l inK true a false).2.1 : Int) else V l .tv (sgn l inK true a false).2.1 := by
  refine vd_sgn s_tv ha (.inl rfl) (fun _ => ?_)
  show (if bt l a = 92 then _ else if 127 < bt l a then _ else if reB inK (bt l a) = true then _ else _) = if _ then (if bt l a = 92 then _ else if 127 < bt l a then _ else if reB inK (bt l a) = true then _ else _) else _
  by_cases k : bt l a = 92
  · rw [if_pos k, if_pos (.inl k), if_pos k]
  by_cases k2 : 127 < bt l a
  · rw [if_neg k, if_pos k2, if_pos (.inr (.inl ⟨rfl, k2⟩)), if_neg k, if_pos k2]
  by_cases k3 : reB inK (bt l a) = true
  · rw [if_neg k, if_neg k2, if_pos k3, if_pos (.inr (.inr (reB_iff.1 k3))), if_neg k, if_neg k2, if_pos k3]
  · rw [if_neg k, if_neg k2, if_neg k3, if_neg]
    rintro (h | h | h)
    · exact k h
    · exact k2 h.2
    · exact k3 (reB_iff.2 h)
/-- Behind a word of signs. -/
theorem stop_n {m : List UInt8} {a : Nat} (hl : a ≤ l.length) (h : (sgn l m false a false).2.2 = false) (h2 : (sgn l m false a false).2.1 < l.length) : bt l (sgn l m false a false).2.1 ≠ 92 ∧ reB m (bt l (sgn l m false a false).2.1) = false := by
  have := sgn_stop hl h h2
  refine ⟨fun e => this (.inl e), ?_⟩
  cases k : reB m (bt l (sgn l m false a false).2.1)
  · rfl
  · exact absurd (.inr (.inr (reB_iff.1 k))) this
theorem stop_w {m : List UInt8} {a : Nat} (hl : a ≤ l.length) (h : (sgn l m true a false).2.2 = false) (h2 : (sgn l m true a false).2.1 < l.length) : bt l (sgn l m true a false).2.1 ≠ 92 ∧ ¬ 127 < bt l (sgn l m true a false).2.1 ∧ reB m (bt l (sgn l m true a false).2.1) = false := by
  have := sgn_stop hl h h2
  refine ⟨fun e => this (.inl e), fun e => this (.inr (.inl ⟨rfl, e⟩)), ?_⟩
  cases k : reB m (bt l (sgn l m true a false).2.1)
  · rfl
  · exact absurd (.inr (.inr (reB_iff.1 k))) this
theorem isB_f {a : Nat} {c : Int} (h : isB l a false c = false) (ha : a < l.length) : bt l a ≠ c := fun e => by
  have := isB_iff.2 ⟨ha, e⟩
  rw [h] at this; cases this
/-- A verdict behind which stand two bytes that may be. -/
def Forks (l : List UInt8) (a : Nat) (x : Int) : Prop := x = if isB l a false 44 = true then V l .tk0 (a + 1) else if isB l a false 32 = true then V l .fk0 (a + 1) else (a : Int)
theorem forks_of {q : LQ} {a : Nat} (hac : acL q = false) (h : a < l.length → stL q (bt l a) = if bt l a = 44 then some .tk0 else if bt l a = 32 then some .fk0 else none) : Forks l a (V l q a) := by
  unfold Forks
  by_cases ha : a < l.length
  · have h1 := h ha
    cases k1 : isB l a false 44
    · rw [if_neg (isB_f k1 ha)] at h1
      rw [if_neg (by simp)]
      cases k2 : isB l a false 32
      · rw [if_neg (isB_f k2 ha)] at h1
        rw [if_neg (by simp)]
        exact vd_no ha h1
      · rw [if_pos (isB_iff.1 k2).2] at h1
        rw [if_pos rfl]
        exact vd_yes ha h1
    · rw [if_pos (isB_iff.1 k1).2] at h1
      rw [if_pos rfl]
      exact vd_yes ha h1
  · have z : ∀ c, isB l a false c = false := fun c => by simp [isB, pkB, ha]
    rw [z, z]
    exact vd_end (by omega) hac
theorem forks_nm {a : Nat} (ha : a < l.length) (h : (sgn l inM false a (isB l a false 35)).2.2 = false) : Forks l (sgn l inM false a (isB l a false 35)).2.1 (V l .nm (sgn l inM false a (isB l a false 35)).2.1) := by
  cases k : isB l a false 35
  · rw [k] at h
    refine forks_of rfl (fun h2 => ?_)
    obtain ⟨h3, h4⟩ := stop_n (by omega) h h2
    show (if _ = 92 then _ else if reB inM _ = true then _ else _) = _
    rw [if_neg h3, if_neg (by rw [h4]; simp)]
  · rw [k] at h; cases h
theorem forks_tv {a : Nat} (ha : a ≤ l.length) (h : (sgn l inK true a false).2.2 = false) : Forks l (sgn l inK true a false).2.1 (V l .tv (sgn l inK true a false).2.1) := by
  refine forks_of rfl (fun h2 => ?_)
  obtain ⟨h3, h4, h5⟩ := stop_w ha h h2
  show (if _ = 92 then _ else if 127 < _ then _ else if reB inK _ = true then _ else _) = _
  rw [if_neg h3, if_neg h4, if_neg (by rw [h5]; simp)]
theorem word1 (l : List UInt8) (c : UInt8) (a : Nat) : wordS l [c] a false = if isB l a false c.toNat = true then (a + 1, false) else (a, true) := by
  simp [wordS]
theorem word_no (l w : List UInt8) (a : Nat) : wordS l w a true = (a, true) := by cases w <;> simp [wordS]
theorem eq_tk {a : Nat} (ha : a ≤ l.length) (h : (sgn l inK false a false).2.2 = false) : V l .tk (sgn l inK false a false).2.1 = if (wordS l [61] (sgn l inK false a false).2.1 false).2 = true then ((wordS l [61] (sgn l inK false a false).2.1 false).1 : Int) else V l .tv0 (wordS l [61] (sgn l inK false a false).2.1 false).1 := by
  rw [word1]
  have hs := stop_n ha h
  generalize (sgn l inK false a false).2.1 = b at hs ⊢
  show V l .tk b = if (if isB l b false 61 = true then (b + 1, false) else (b, true)).2 = true then ((if isB l b false 61 = true then (b + 1, false) else (b, true)).1 : Int) else V l .tv0 (if isB l b false 61 = true then (b + 1, false) else (b, true)).1
  by_cases hb : b < l.length
  · obtain ⟨h3, h4⟩ := hs hb
    cases k : isB l b false 61
    · simp only [Bool.false_eq_true, if_false, if_true]
      refine vd_no hb ?_
      show (if _ = 92 then _ else if reB inK _ = true then _ else _) = _
      rw [if_neg h3, if_neg (by rw [h4]; simp), if_neg (isB_f k hb)]
    · simp only [if_true, Bool.false_eq_true, if_false]
      refine vd_yes hb ?_
      show (if _ = 92 then _ else if reB inK _ = true then _ else _) = _
      rw [if_neg h3, if_neg (by rw [h4]; simp), if_pos (isB_iff.1 k).2]
  · have z : isB l b false 61 = false := by simp [isB, pkB, hb]
    rw [z]
    simp only [Bool.false_eq_true, if_false, if_true]
    exact vd_end (by omega) rfl
theorem eq_fk {a : Nat} (ha : a ≤ l.length) (h : (sgn l inK false a false).2.2 = false) : V l .fk (sgn l inK false a false).2.1 = if (wordS l [61] (sgn l inK false a false).2.1 false).2 = true then ((wordS l [61] (sgn l inK false a false).2.1 false).1 : Int) else V l .fv (wordS l [61] (sgn l inK false a false).2.1 false).1 := by
  rw [word1]
  have hs := stop_n ha h
  generalize (sgn l inK false a false).2.1 = b at hs ⊢
  show V l .fk b = if (if isB l b false 61 = true then (b + 1, false) else (b, true)).2 = true then ((if isB l b false 61 = true then (b + 1, false) else (b, true)).1 : Int) else V l .fv (if isB l b false 61 = true then (b + 1, false) else (b, true)).1
  by_cases hb : b < l.length
  · obtain ⟨h3, h4⟩ := hs hb
    cases k : isB l b false 61
    · simp only [Bool.false_eq_true, if_false, if_true]
      refine vd_no hb ?_
      show (if _ = 92 then _ else if reB inK _ = true then _ else _) = _
      rw [if_neg h3, if_neg (by rw [h4]; simp), if_neg (isB_f k hb)]
    · simp only [if_true, Bool.false_eq_true, if_false]
      refine vd_yes hb ?_
      show (if _ = 92 then _ else if reB inK _ = true then _ else _) = _
      rw [if_neg h3, if_neg (by rw [h4]; simp), if_pos (isB_iff.1 k).2]
  · have z : isB l b false 61 = false := by simp [isB, pkB, hb]
    rw [z]
    simp only [Bool.false_eq_true, if_false, if_true]
    exact vd_end (by omega) rfl
theorem sgn_no (l m : List UInt8) (w : Bool) (a : Nat) : sgn l m w a true = ([], a, true) := rfl
theorem tagS_le {a : Nat} (no : Bool) (ha : a ≤ l.length) : a ≤ (tagS l a no).2.1 ∧ (tagS l a no).2.1 ≤ l.length := by
  have h1 := sgn_le l inK false a no ha
  have h2 := wordS_le l [61] (sgn l inK false a no).2.1 (sgn l inK false a no).2.2 h1.2.1
  have h3 := sgn_le l inK true (wordS l [61] (sgn l inK false a no).2.1 (sgn l inK false a no).2.2).1 (wordS l [61] (sgn l inK false a no).2.1 (sgn l inK false a no).2.2).2 h2.2
  show a ≤ (sgn l inK true (wordS l [61] (sgn l inK false a no).2.1 (sgn l inK false a no).2.2).1 (wordS l [61] (sgn l inK false a no).2.1 (sgn l inK false a no).2.2).2).2.1 ∧ (sgn l inK true (wordS l [61] (sgn l inK false a no).2.1 (sgn l inK false a no).2.2).1 (wordS l [61] (sgn l inK false a no).2.1 (sgn l inK false a no).2.2).2).2.1 ≤ l.length
  omega
theorem v_tag {a : Nat} (ha : a ≤ l.length) : if (tagS l a false).2.2 = true then V l .tk0 a = ((tagS l a false).2.1 : Int) else Forks l (tagS l a false).2.1 (V l .tk0 a) := by
  have h1 := sgn_le l inK false a false ha
  have hv := v_tk ha
  have he := eq_tk ha
  show if (sgn l inK true (wordS l [61] (sgn l inK false a false).2.1 (sgn l inK false a false).2.2).1 (wordS l [61] (sgn l inK false a false).2.1 (sgn l inK false a false).2.2).2).2.2 = true then V l .tk0 a = ((sgn l inK true (wordS l [61] (sgn l inK false a false).2.1 (sgn l inK false a false).2.2).1 (wordS l [61] (sgn l inK false a false).2.1 (sgn l inK false a false).2.2).2).2.1 : Int) else Forks l (sgn l inK true (wordS l [61] (sgn l inK false a false).2.1 (sgn l inK false a false).2.2).1 (wordS l [61] (sgn l inK false a false).2.1 (sgn l inK false a false).2.2).2).2.1 (V l .tk0 a)
  cases hn : (sgn l inK false a false).2.2
  · rw [hn] at hv
    rw [if_neg (by simp)] at hv
    rw [he hn] at hv
    have h2 := wordS_le l [61] (sgn l inK false a false).2.1 false h1.2.1
    cases hw : (wordS l [61] (sgn l inK false a false).2.1 false).2
    · rw [hw, if_neg (by simp)] at hv
      have h3 := v_tv h2.2
      cases hk : (sgn l inK true (wordS l [61] (sgn l inK false a false).2.1 false).1 false).2.2
      · rw [if_neg (by simp), hv, h3, hk, if_neg (by simp)]
        exact forks_tv h2.2 hk
      · rw [if_pos rfl, hv, h3, hk, if_pos rfl]
    · rw [hw, if_pos rfl] at hv
      rw [sgn_no, if_pos rfl]; exact hv
  · rw [hn, if_pos rfl] at hv
    rw [word_no, sgn_no, if_pos rfl]; exact hv
theorem tagsS_no (l : List UInt8) : ∀ f a acc, (tagsS l f a true acc).2 = (a, true)
  | 0, a, acc => rfl
  | f + 1, a, acc => by simp [tagsS, isB_no]
theorem tagsS_le : ∀ f a no acc, a ≤ l.length → a ≤ (tagsS l f a no acc).2.1 ∧ (tagsS l f a no acc).2.1 ≤ l.length
  | 0, a, no, acc, h => ⟨Nat.le_refl _, h⟩
  | f + 1, a, no, acc, h => by
    unfold tagsS
    by_cases k : isB l a no 44 = true
    · rw [if_pos k]
      have := (isB_lt k).1
      have h1 := tagS_le (l := l) (a := a + 1) false (by omega)
      have h2 := tagsS_le f (tagS l (a + 1) false).2.1 (tagS l (a + 1) false).2.2 (acc ++ [(tagS l (a + 1) false).1]) h1.2
      omega
    · rw [if_neg k]; exact ⟨Nat.le_refl _, h⟩
theorem v_tags : ∀ f a acc x, l.length < f + a → a ≤ l.length → Forks l a x →
    x = if (wordS l [32] (tagsS l f a false acc).2.1 (tagsS l f a false acc).2.2).2 = true then ((wordS l [32] (tagsS l f a false acc).2.1 (tagsS l f a false acc).2.2).1 : Int) else V l .fk0 (wordS l [32] (tagsS l f a false acc).2.1 (tagsS l f a false acc).2.2).1
  | 0, a, acc, x, hf, hl, _ => by omega
  | f + 1, a, acc, x, hf, hl, hx => by
    unfold Forks at hx
    unfold tagsS
    by_cases k : isB l a false 44 = true
    · rw [if_pos k] at hx ⊢
      have hlt := (isB_lt k).1
      have hle := tagS_le (l := l) (a := a + 1) false (by omega)
      have ht := v_tag (l := l) (a := a + 1) (by omega)
      rw [← hx] at ht
      cases hn : (tagS l (a + 1) false).2.2
      · rw [hn, if_neg (by simp)] at ht
        exact v_tags f _ _ x (by omega) hle.2 ht
      · rw [hn, if_pos rfl] at ht
        rw [tagsS_no, word_no, if_pos rfl]
        exact ht
    · rw [if_neg k] at hx ⊢
      rw [word1]
      simp only
      by_cases k2 : isB l a false 32 = true
      · rw [if_pos k2] at hx
        have k3 : isB l a false ((32 : UInt8).toNat : Int) = true := k2
        rw [if_pos k3, if_neg (by simp)]
        exact hx
      · rw [if_neg k2] at hx
        have k3 : ¬ isB l a false ((32 : UInt8).toNat : Int) = true := k2
        rw [if_neg k3, if_pos rfl]
        exact hx
/-- Behind a field's value. -/
def After (l : List UInt8) (a : Nat) (x : Int) : Prop := x = if isB l a false 44 = true then V l .fk0 (a + 1) else if isB l a false 32 = true then V l .tm0 (a + 1) else if isB l a false 10 = true then V l .line (a + 1) else (a : Int)
theorem after_of {q : LQ} {a : Nat} (hac : acL q = false) (h : a < l.length → stL q (bt l a) = afterV (bt l a)) : After l a (V l q a) := by
  unfold After
  by_cases ha : a < l.length
  · have h1 := h ha
    unfold afterV at h1
    cases k1 : isB l a false 44
    · rw [if_neg (isB_f k1 ha)] at h1
      rw [if_neg (by simp)]
      cases k2 : isB l a false 32
      · rw [if_neg (isB_f k2 ha)] at h1
        rw [if_neg (by simp)]
        cases k3 : isB l a false 10
        · rw [if_neg (isB_f k3 ha)] at h1
          rw [if_neg (by simp)]
          exact vd_no ha h1
        · rw [if_pos (isB_iff.1 k3).2] at h1
          rw [if_pos rfl]
          exact vd_yes ha h1
      · rw [if_pos (isB_iff.1 k2).2] at h1
        rw [if_pos rfl]
        exact vd_yes ha h1
    · rw [if_pos (isB_iff.1 k1).2] at h1
      rw [if_pos rfl]
      exact vd_yes ha h1
  · have z : ∀ c, isB l a false c = false := fun c => by simp [isB, pkB, ha]
    rw [z, z, z]
    exact vd_end (by omega) hac
theorem isB_end {a : Nat} {c : Int} (h : ¬ a < l.length) : isB l a false c = false := by simp [isB, pkB, h]
theorem word_head {c : UInt8} {cs : List UInt8} {a : Nat} (h : isB l a false c.toNat = true) : wordS l (c :: cs) a false = wordS l cs (a + 1) false := by
  conv => lhs; unfold wordS
  simp only [Bool.false_eq_true, if_false]
  rw [if_pos h]
theorem v_true (a : Nat) : V l .t1 a = if (wordS l [114, 117, 101] a false).2 = true then ((wordS l [114, 117, 101] a false).1 : Int) else V l .ve (wordS l [114, 117, 101] a false).1 := by
  refine vd_word (st := stL) (ac := acL) [114, 117, 101] [LQ.t2, LQ.t3] LQ.t1 LQ.ve a rfl (fun i hi => ?_)
  match i, hi with
  | 0, _ => exact ⟨rfl, rfl, fun d hd => if_neg hd⟩
  | 1, _ => exact ⟨rfl, rfl, fun d hd => if_neg hd⟩
  | 2, _ => exact ⟨rfl, rfl, fun d hd => if_neg hd⟩
  | n + 3, h => exact absurd h (by simp)
theorem v_false (a : Nat) : V l .f1 a = if (wordS l [97, 108, 115, 101] a false).2 = true then ((wordS l [97, 108, 115, 101] a false).1 : Int) else V l .ve (wordS l [97, 108, 115, 101] a false).1 := by
  refine vd_word (st := stL) (ac := acL) [97, 108, 115, 101] [LQ.f2, LQ.f3, LQ.f4] LQ.f1 LQ.ve a rfl (fun i hi => ?_)
  match i, hi with
  | 0, _ => exact ⟨rfl, rfl, fun d hd => if_neg hd⟩
  | 1, _ => exact ⟨rfl, rfl, fun d hd => if_neg hd⟩
  | 2, _ => exact ⟨rfl, rfl, fun d hd => if_neg hd⟩
  | 3, _ => exact ⟨rfl, rfl, fun d hd => if_neg hd⟩
  | n + 4, h => exact absurd h (by simp)
theorem v_quote {a : Nat} (ha : a ≤ l.length) : if (wordS l [34] (ink l 34 inT 110 a false).2.1 (ink l 34 inT 110 a false).2.2).2 = true then V l .qq a = ((wordS l [34] (ink l 34 inT 110 a false).2.1 (ink l 34 inT 110 a false).2.2).1 : Int) else After l (wordS l [34] (ink l 34 inT 110 a false).2.1 (ink l 34 inT 110 a false).2.2).1 (V l .qq a) := by
  have hi := vd_ink (l := l) (e := 34) (m := inT) (n := 110) u_qq rfl (show acL .qE = false from rfl) (fun _ => rfl) (fun _ => rfl) (fun _ => rfl) (fun c h0 h1 h2 h3 h4 => by
    show (if c = 34 then _ else if c = 10 then _ else if c = 92 then _ else if c < 128 then _ else _) = _
    rw [if_neg h2, if_neg h3, if_neg h4, if_pos h1]) (fun c h0 h1 => by
    show (if c = 34 then _ else if c = 10 then _ else if c = 92 then _ else if c < 128 then _ else _) = _
    rw [if_neg h1, if_neg (by omega), if_neg (by omega), if_neg (by omega)]) (l.length + 1) a [] (by omega) ha
  have hst := inkS_stop (l := l) (e := 34) (m := inT) (n := 110) (l.length + 1) a [] ha
  have e : ink l 34 inT 110 a false = inkS l 34 inT 110 (l.length + 1) a [] := rfl
  rw [e]
  cases hn : (inkS l 34 inT 110 (l.length + 1) a []).2.2
  · obtain ⟨h1, h2⟩ := hst hn
    have hb : isB l (inkS l 34 inT 110 (l.length + 1) a []).2.1 false ((34 : UInt8).toNat : Int) = true := isB_iff.2 ⟨h1, h2⟩
    rw [hn, if_neg (by simp)] at hi
    rw [word1, if_pos hb, if_neg (by simp)]
    show After l _ (vd stL acL l .qq a)
    rw [hi, vd_yes h1 (by rw [h2]; rfl)]
    exact after_of rfl (fun _ => rfl)
  · rw [hn, if_pos rfl] at hi
    rw [word_no, if_pos rfl]
    exact hi
theorem digB_iff {c : Int} : digB c = true ↔ 48 ≤ c ∧ c ≤ 57 := by simp [digB]
/-- A number's kinds, behind its digits. -/
theorem v_kind {a b : Nat} {q : LQ} {mn : Bool} (hq : (q = .iM ∧ mn = true) ∨ (q = .iP ∧ mn = false)) (hd : b < l.length → digB (bt l b) = false) (X : Nat × List UInt8 × Nat) (Y : Nat × List UInt8 × Nat) (Z W : Nat × List UInt8 × Nat) :
    let r : (Nat × List UInt8 × Nat) × Nat × Bool := if isB l b false 105 then (X, b + 1, false) else if !mn && isB l b false 117 then (Y, b + 1, false) else if isB l b false 46 then (Z, someS l digB (b + 1) false) else (W, b, false)
    if r.2.2 = true then V l q b = (r.2.1 : Int) else After l r.2.1 (V l q b) := by
  have hac : acL q = false := by rcases hq with ⟨rfl, _⟩ | ⟨rfl, _⟩ <;> rfl
  by_cases hb : b < l.length
  · have hst : stL q (bt l b) = if bt l b = 105 then some .ve else if mn = false ∧ bt l b = 117 then some .ve else if bt l b = 46 then some .dot else afterV (bt l b) := by
      rcases hq with ⟨rfl, rfl⟩ | ⟨rfl, rfl⟩
      · show (if digB (bt l b) = true then _ else if _ = 105 then _ else if _ = 46 then _ else _) = _
        rw [if_neg (by rw [hd hb]; simp)]
        simp
      · show (if digB (bt l b) = true then _ else if _ = 105 then _ else if _ = 117 then _ else if _ = 46 then _ else _) = _
        rw [if_neg (by rw [hd hb]; simp)]
        simp
    cases k1 : isB l b false 105
    · rw [if_neg (isB_f k1 hb)] at hst
      simp only [Bool.false_eq_true, if_false]
      by_cases k2 : (!mn && isB l b false 117) = true
      · rw [k2]
        simp only [if_true, Bool.false_eq_true, if_false]
        simp only [Bool.and_eq_true, Bool.not_eq_true'] at k2
        rw [if_pos ⟨k2.1, (isB_iff.1 k2.2).2⟩] at hst
        rw [show V l q b = _ from vd_yes hb hst]
        exact after_of rfl (fun _ => rfl)
      · have hneg : ¬ (mn = false ∧ bt l b = 117) := fun h => k2 (by simp only [Bool.and_eq_true, Bool.not_eq_true']; exact ⟨h.1, isB_iff.2 ⟨hb, h.2⟩⟩)
        rw [if_neg hneg] at hst
        rw [if_neg k2]
        cases k3 : isB l b false 46
        · simp only [Bool.false_eq_true, if_false]
          rw [if_neg (isB_f k3 hb)] at hst
          exact after_of hac (fun _ => hst)
        · simp only [if_true]
          rw [if_pos (isB_iff.1 k3).2] at hst
          have hv : V l q b = _ := vd_yes hb hst
          have hs := vd_some (l := l) (st := stL) (ac := acL) (T0 := .dot) (T := .fr) (p := digB) (a := b + 1) rfl (fun _ h => by show (if _ then _ else _) = _; rw [if_pos h]) (fun _ h => by show (if _ then _ else _) = _; rw [if_neg (by rw [h]; simp)]) (fun c h => by show (if _ then _ else _) = _; rw [if_pos h])
          cases hn : (someS l digB (b + 1) false).2
          · rw [if_neg (by simp), hv]
            rw [hn, if_neg (by simp)] at hs
            rw [hs]
            refine after_of rfl (fun h => ?_)
            show (if digB _ = true then _ else _) = _
            rw [if_neg (by rw [someS_stop h]; simp)]
          · rw [if_pos rfl, hv]
            rw [hn, if_pos rfl] at hs
            exact hs
    · simp only [if_true, Bool.false_eq_true, if_false]
      rw [if_pos (isB_iff.1 k1).2] at hst
      rw [show V l q b = _ from vd_yes hb hst]
      exact after_of rfl (fun _ => rfl)
  · have z : ∀ c, isB l b false c = false := fun c => isB_end hb
    rw [z, z, z]
    simp only [Bool.and_false, Bool.false_eq_true, if_false]
    exact after_of hac (fun h => absurd h hb)
theorem v_number {a : Nat} (ha : a ≤ l.length) (h1 : isB l a false 116 = false) (h2 : isB l a false 102 = false) (h3 : isB l a false 34 = false) :
    if (numberS l a false).2.2 = true then V l .fv a = ((numberS l a false).2.1 : Int) else After l (numberS l a false).2.1 (V l .fv a) := by
  have e : numS l a false = someS l digB (takeA l a false 45) false := rfl
  unfold numberS
  simp only
  rw [e]
  cases k : isB l a false 45
  · have e2 : takeA l a false 45 = a := by unfold takeA; rw [k]; rfl
    rw [e2]
    have hs := vd_some (l := l) (st := stL) (ac := acL) (T0 := .fv) (T := .iP) (p := digB) (a := a) rfl (fun hl h => by
      have := digB_iff.1 h
      show (if bt l a = 116 then _ else if bt l a = 102 then _ else if bt l a = 34 then _ else if bt l a = 45 then _ else if digB (bt l a) = true then _ else _) = _
      rw [if_neg (by omega), if_neg (by omega), if_neg (by omega), if_neg (by omega), if_pos h]) (fun hl h => by
      show (if bt l a = 116 then _ else if bt l a = 102 then _ else if bt l a = 34 then _ else if bt l a = 45 then _ else if digB (bt l a) = true then _ else _) = _
      rw [if_neg (isB_f h1 hl), if_neg (isB_f h2 hl), if_neg (isB_f h3 hl), if_neg (isB_f k hl), if_neg (by rw [h]; simp)]) (fun c h => by show (if _ then _ else _) = _; rw [if_pos h])
    cases hn : (someS l digB a false).2
    · rw [hn, if_neg (by simp)] at hs
      have e3 : someS l digB a false = ((someS l digB a false).1, false) := Prod.ext rfl hn
      rw [e3]
      simp only
      show if _ then vd stL acL l .fv a = _ else After l _ (vd stL acL l .fv a)
      rw [hs]
      exact v_kind (a := a) (.inr ⟨rfl, rfl⟩) (fun h => someS_stop h) _ _ _ _
    · rw [hn, if_pos rfl] at hs
      have z : ∀ b c, isB l b true c = false := fun _ _ => rfl
      rw [z, z, z]
      simp only [Bool.and_false, Bool.false_eq_true, if_false]
      rw [hn, if_pos rfl]
      exact hs
  · have hk := isB_iff.1 k
    have e2 : takeA l a false 45 = a + 1 := by unfold takeA; rw [k]; rfl
    rw [e2]
    have hv : V l .fv a = V l .neg (a + 1) := vd_yes hk.1 (by rw [hk.2]; rfl)
    have hs := vd_some (l := l) (st := stL) (ac := acL) (T0 := .neg) (T := .iM) (p := digB) (a := a + 1) rfl (fun hl h => by show (if _ then _ else _) = _; rw [if_pos h]) (fun hl h => by show (if _ then _ else _) = _; rw [if_neg (by rw [h]; simp)]) (fun c h => by show (if _ then _ else _) = _; rw [if_pos h])
    cases hn : (someS l digB (a + 1) false).2
    · rw [hn, if_neg (by simp)] at hs
      have e3 : someS l digB (a + 1) false = ((someS l digB (a + 1) false).1, false) := Prod.ext rfl hn
      rw [e3]
      simp only
      rw [hv]
      show if _ then vd stL acL l .neg (a + 1) = _ else After l _ (vd stL acL l .neg (a + 1))
      rw [hs]
      exact v_kind (a := a) (.inl ⟨rfl, rfl⟩) (fun h => someS_stop h) _ _ _ _
    · rw [hn, if_pos rfl] at hs
      have z : ∀ b c, isB l b true c = false := fun _ _ => rfl
      rw [z, z, z]
      simp only [Bool.and_false, Bool.false_eq_true, if_false]
      rw [hn, if_pos rfl, hv]
      exact hs
theorem v_told {a : Nat} (ha : a ≤ l.length) : if (toldS l a false).2.2 = true then V l .fv a = ((toldS l a false).2.1 : Int) else After l (toldS l a false).2.1 (V l .fv a) := by
  unfold toldS
  cases h1 : isB l a false 116
  · cases h2 : isB l a false 102
    · cases h3 : isB l a false 34
      · simp only [Bool.false_eq_true, if_false]
        exact v_number ha h1 h2 h3
      · simp only [Bool.false_eq_true, if_false, if_true]
        have hk := isB_iff.1 h3
        have hv : V l .fv a = V l .qq (a + 1) := vd_yes hk.1 (by rw [hk.2]; rfl)
        rw [hv]
        exact v_quote (by omega)
    · simp only [Bool.false_eq_true, if_false, if_true]
      have hk := isB_iff.1 h2
      have hv : V l .fv a = V l .f1 (a + 1) := vd_yes hk.1 (by rw [hk.2]; rfl)
      rw [hv, show wordS l wFalse a false = wordS l [97, 108, 115, 101] (a + 1) false from word_head h2, v_false]
      cases hw : (wordS l [97, 108, 115, 101] (a + 1) false).2
      · rw [if_neg (by simp), if_neg (by simp)]
        exact after_of rfl (fun _ => rfl)
      · rw [if_pos rfl, if_pos rfl]
  · simp only [if_true]
    have hk := isB_iff.1 h1
    have hv : V l .fv a = V l .t1 (a + 1) := vd_yes hk.1 (by rw [hk.2]; rfl)
    rw [hv, show wordS l wTrue a false = wordS l [114, 117, 101] (a + 1) false from word_head h1, v_true]
    cases hw : (wordS l [114, 117, 101] (a + 1) false).2
    · rw [if_neg (by simp), if_neg (by simp)]
      exact after_of rfl (fun _ => rfl)
    · rw [if_pos rfl, if_pos rfl]
theorem isB_le {a : Nat} {no : Bool} {c : Int} (h : isB l a no c = true) : a + 1 ≤ l.length := (isB_lt h).1
theorem numberS_le {a : Nat} (no : Bool) (ha : a ≤ l.length) : a ≤ (numberS l a no).2.1 ∧ (numberS l a no).2.1 ≤ l.length := by
  have h1 := numS_le l a no ha
  unfold numberS
  simp only
  split
  · have := isB_le ‹_›; simp only; omega
  · split
    · have k := ‹(!isB l a no 45 && isB l (numS l a no).1 (numS l a no).2 117) = true›
      simp only [Bool.and_eq_true] at k
      have := isB_le k.2; simp only; omega
    · split
      · have := isB_le ‹_›
        have h2 := someS_le l digB ((numS l a no).1 + 1) false (by omega)
        refine ⟨?_, h2.2⟩
        show a ≤ (someS l digB ((numS l a no).1 + 1) false).1
        omega
      · exact h1
theorem toldS_le {a : Nat} (no : Bool) (ha : a ≤ l.length) : a ≤ (toldS l a no).2.1 ∧ (toldS l a no).2.1 ≤ l.length := by
  unfold toldS
  split
  · exact wordS_le l wTrue a no ha
  · split
    · exact wordS_le l wFalse a no ha
    · split
      · have := isB_le ‹_›
        have h1 := ink_le l 34 inT 110 (a + 1) false (by omega)
        have h2 := wordS_le l [34] (ink l 34 inT 110 (a + 1) false).2.1 (ink l 34 inT 110 (a + 1) false).2.2 h1.2.1
        refine ⟨?_, h2.2⟩
        show a ≤ (wordS l [34] (ink l 34 inT 110 (a + 1) false).2.1 (ink l 34 inT 110 (a + 1) false).2.2).1
        omega
      · exact numberS_le no ha
theorem fieldS_le {a : Nat} (no : Bool) (ha : a ≤ l.length) : a ≤ (fieldS l a no).2.1 ∧ (fieldS l a no).2.1 ≤ l.length := by
  have h1 := sgn_le l inK false a no ha
  have h2 := wordS_le l [61] (sgn l inK false a no).2.1 (sgn l inK false a no).2.2 h1.2.1
  have h3 := toldS_le (l := l) (wordS l [61] (sgn l inK false a no).2.1 (sgn l inK false a no).2.2).2 h2.2
  unfold fieldS
  simp only
  omega
theorem toldS_no (a : Nat) : (toldS l a true).2 = (a, true) := by simp [toldS, numberS, isB_no, numS]
theorem v_field {a : Nat} (ha : a ≤ l.length) : if (fieldS l a false).2.2 = true then V l .fk0 a = ((fieldS l a false).2.1 : Int) else After l (fieldS l a false).2.1 (V l .fk0 a) := by
  have h1 := sgn_le l inK false a false ha
  have hv := v_fk ha
  have he := eq_fk ha
  show if (toldS l (wordS l [61] (sgn l inK false a false).2.1 (sgn l inK false a false).2.2).1 (wordS l [61] (sgn l inK false a false).2.1 (sgn l inK false a false).2.2).2).2.2 = true then V l .fk0 a = ((toldS l (wordS l [61] (sgn l inK false a false).2.1 (sgn l inK false a false).2.2).1 (wordS l [61] (sgn l inK false a false).2.1 (sgn l inK false a false).2.2).2).2.1 : Int) else After l (toldS l (wordS l [61] (sgn l inK false a false).2.1 (sgn l inK false a false).2.2).1 (wordS l [61] (sgn l inK false a false).2.1 (sgn l inK false a false).2.2).2).2.1 (V l .fk0 a)
  cases hn : (sgn l inK false a false).2.2
  · rw [hn, if_neg (by simp), he hn] at hv
    have h2 := wordS_le l [61] (sgn l inK false a false).2.1 false h1.2.1
    cases hw : (wordS l [61] (sgn l inK false a false).2.1 false).2
    · rw [hw, if_neg (by simp)] at hv
      rw [hv]
      exact v_told h2.2
    · rw [hw, if_pos rfl] at hv
      rw [toldS_no, if_pos rfl]; exact hv
  · rw [hn, if_pos rfl] at hv
    rw [word_no, toldS_no, if_pos rfl]; exact hv
/-- Behind all fields. -/
def Tail (l : List UInt8) (a : Nat) (x : Int) : Prop := x = if isB l a false 32 = true then V l .tm0 (a + 1) else if isB l a false 10 = true then V l .line (a + 1) else (a : Int)
theorem sgn_lt {m : List UInt8} {wide : Bool} {a : Nat} (ha : a ≤ l.length) (h : (sgn l m wide a false).2.2 = false) : a < (sgn l m wide a false).2.1 := by
  have h1 := (sgn_le l m wide a false ha).1
  unfold sgn at h h1 ⊢
  simp only [Bool.false_eq_true, if_false, Bool.or_eq_false_iff, beq_eq_false_iff_ne] at h h1 ⊢
  omega
theorem fieldS_no_le {a : Nat} (ha : a ≤ l.length) (h : (fieldS l a false).2.2 = false) : a < (fieldS l a false).2.1 := by
  have h1 := sgn_le l inK false a false ha
  have h2 := wordS_le l [61] (sgn l inK false a false).2.1 (sgn l inK false a false).2.2 h1.2.1
  have h3 := toldS_le (l := l) (wordS l [61] (sgn l inK false a false).2.1 (sgn l inK false a false).2.2).2 h2.2
  have hk : (sgn l inK false a false).2.2 = false := by
    cases hn : (sgn l inK false a false).2.2
    · rfl
    · unfold fieldS at h
      simp only at h
      rw [hn, word_no, toldS_no] at h; cases h
  have h4 := sgn_lt ha hk
  unfold fieldS
  simp only
  omega
theorem fieldsS_le : ∀ f a no acc, a ≤ l.length → a ≤ (fieldsS l f a no acc).2.1 ∧ (fieldsS l f a no acc).2.1 ≤ l.length
  | 0, a, no, acc, h => ⟨Nat.le_refl _, h⟩
  | f + 1, a, no, acc, h => by
    have h1 := fieldS_le no h
    unfold fieldsS
    by_cases k : isB l (fieldS l a no).2.1 (fieldS l a no).2.2 44 = true
    · rw [if_pos k]
      have := isB_le k
      have h2 := fieldsS_le f ((fieldS l a no).2.1 + 1) false (acc ++ [(fieldS l a no).1]) (by omega)
      omega
    · rw [if_neg k]; exact h1
theorem fieldS_no (a : Nat) : (fieldS l a true).2 = (a, true) := by
  unfold fieldS
  simp only
  rw [sgn_no, word_no, toldS_no]
theorem fieldsS_no (a : Nat) (acc : List MField) : ∀ f, (fieldsS l f a true acc).2 = (a, true)
  | 0 => rfl
  | f + 1 => by
    unfold fieldsS
    rw [fieldS_no]
    simp [isB_no]
theorem v_fields : ∀ f a acc, l.length < f + a → a ≤ l.length → if (fieldsS l f a false acc).2.2 = true then V l .fk0 a = ((fieldsS l f a false acc).2.1 : Int) else a < (fieldsS l f a false acc).2.1 ∧ Tail l (fieldsS l f a false acc).2.1 (V l .fk0 a)
  | 0, a, acc, hf, hl => by omega
  | f + 1, a, acc, hf, hl => by
    have hle := fieldS_le (l := l) (a := a) false hl
    have hv := v_field hl
    unfold fieldsS
    cases hn : (fieldS l a false).2.2
    · have hlt := fieldS_no_le hl hn
      rw [hn, if_neg (by simp)] at hv
      by_cases k : isB l (fieldS l a false).2.1 false 44 = true
      · rw [if_pos k]
        have hb := isB_le k
        unfold After at hv
        rw [if_pos k] at hv
        have ih := v_fields f ((fieldS l a false).2.1 + 1) (acc ++ [(fieldS l a false).1]) (by omega) hb
        rw [hv]
        split
        · rename_i h; rw [if_pos h] at ih; exact ih
        · rename_i h; rw [if_neg h] at ih; exact ⟨by omega, ih.2⟩
      · rw [if_neg k, hn, if_neg (by simp)]
        refine ⟨hlt, ?_⟩
        unfold After at hv
        rw [if_neg k] at hv
        exact hv
    · rw [hn, if_pos rfl] at hv
      simp only [isB_no, Bool.false_eq_true, if_false]
      rw [hn, if_pos rfl]
      exact hv
theorem lineS_le {a : Nat} (ha : a ≤ l.length) : a ≤ (lineS l a).2.1 ∧ (lineS l a).2.1 ≤ l.length := by
  have h1 := sgn_le l inM false a (isB l a false 35) ha
  have h2 := tagsS_le (l := l) (l.length + 1) (sgn l inM false a (isB l a false 35)).2.1 (sgn l inM false a (isB l a false 35)).2.2 [] h1.2.1
  have h3 := wordS_le l [32] (tagsS l (l.length + 1) (sgn l inM false a (isB l a false 35)).2.1 (sgn l inM false a (isB l a false 35)).2.2 []).2.1 (tagsS l (l.length + 1) (sgn l inM false a (isB l a false 35)).2.1 (sgn l inM false a (isB l a false 35)).2.2 []).2.2 h2.2
  have h4 := fieldsS_le (l := l) (l.length + 1) (wordS l [32] (tagsS l (l.length + 1) (sgn l inM false a (isB l a false 35)).2.1 (sgn l inM false a (isB l a false 35)).2.2 []).2.1 (tagsS l (l.length + 1) (sgn l inM false a (isB l a false 35)).2.1 (sgn l inM false a (isB l a false 35)).2.2 []).2.2).1 (wordS l [32] (tagsS l (l.length + 1) (sgn l inM false a (isB l a false 35)).2.1 (sgn l inM false a (isB l a false 35)).2.2 []).2.1 (tagsS l (l.length + 1) (sgn l inM false a (isB l a false 35)).2.1 (sgn l inM false a (isB l a false 35)).2.2 []).2.2).2 [] h3.2
  unfold lineS
  simp only
  generalize (tagsS l (l.length + 1) (sgn l inM false a (isB l a false 35)).2.1 (sgn l inM false a (isB l a false 35)).2.2 []) = t at *
  generalize (fieldsS l (l.length + 1) (wordS l [32] t.2.1 t.2.2).1 (wordS l [32] t.2.1 t.2.2).2 []) = x at *
  split
  · have k := isB_le ‹_›
    have h5 := numS_le l (x.2.1 + 1) false (by omega)
    have h6 := wordS_le l [10] (numS l (x.2.1 + 1) false).1 (numS l (x.2.1 + 1) false).2 h5.2
    exact ⟨by simp only; omega, h6.2⟩
  · have h6 := wordS_le l [10] x.2.1 x.2.2 h4.2
    exact ⟨by simp only; omega, h6.2⟩
theorem v_line {a : Nat} (ha : a < l.length) : if (lineS l a).2.2 = true then V l .line a = ((lineS l a).2.1 : Int) else a < (lineS l a).2.1 ∧ V l .line a = V l .line (lineS l a).2.1 := by
  have h1 := sgn_le l inM false a (isB l a false 35) (by omega)
  have hv := v_nm ha
  have hfk := forks_nm ha
  unfold lineS
  simp only
  cases hn : (sgn l inM false a (isB l a false 35)).2.2
  · rw [hn, if_neg (by simp)] at hv
    have h2 := tagsS_le (l := l) (l.length + 1) (sgn l inM false a (isB l a false 35)).2.1 false [] h1.2.1
    have ht := v_tags (l.length + 1) _ [] _ (by omega) h1.2.1 (hfk hn)
    rw [← hv] at ht
    generalize (tagsS l (l.length + 1) (sgn l inM false a (isB l a false 35)).2.1 false []) = t at *
    have h3 := wordS_le l [32] t.2.1 t.2.2 h2.2
    cases hw : (wordS l [32] t.2.1 t.2.2).2
    · rw [hw, if_neg (by simp)] at ht
      generalize (wordS l [32] t.2.1 t.2.2).1 = b at *
      have h4 := fieldsS_le (l := l) (l.length + 1) b false [] h3.2
      have hx := v_fields (l := l) (l.length + 1) b [] (by omega) h3.2
      rw [← ht] at hx
      generalize fieldsS l (l.length + 1) b false [] = x at *
      cases hxn : x.2.2
      · rw [hxn, if_neg (by simp)] at hx
        obtain ⟨hlt, htl⟩ := hx
        unfold Tail at htl
        cases k : isB l x.2.1 false 32
        · simp only [Bool.false_eq_true, if_false]
          rw [k, if_neg (by simp)] at htl
          rw [word1]
          by_cases k2 : isB l x.2.1 false 10 = true
          · rw [if_pos k2] at htl
            have k3 : isB l x.2.1 false ((10 : UInt8).toNat : Int) = true := k2
            rw [if_pos k3, if_neg (by simp)]
            exact ⟨by simp only; omega, htl⟩
          · rw [if_neg k2] at htl
            have k3 : ¬ isB l x.2.1 false ((10 : UInt8).toNat : Int) = true := k2
            rw [if_neg k3, if_pos rfl]
            exact htl
        · simp only [if_true]
          rw [k, if_pos rfl] at htl
          have hb := isB_le k
          generalize hc : x.2.1 + 1 = c at *
          have e : numS l c false = someS l digB (takeA l c false 45) false := rfl
          rw [e]
          have fin : ∀ d, (d < l.length → digB (bt l d) = false) → c ≤ d → V l .line a = V l .tm d → if (wordS l [10] d false).2 = true then V l .line a = ((wordS l [10] d false).1 : Int) else a < (wordS l [10] d false).1 ∧ V l .line a = V l .line (wordS l [10] d false).1 := fun d hd hcd hvd => by
            rw [word1]
            by_cases k2 : isB l d false 10 = true
            · have k3 : isB l d false ((10 : UInt8).toNat : Int) = true := k2
              rw [if_pos k3, if_neg (by simp)]
              refine ⟨by simp only; omega, ?_⟩
              have hi := isB_iff.1 k2
              rw [hvd]
              refine vd_yes hi.1 ?_
              show (if digB _ = true then _ else if _ = 10 then _ else _) = _
              rw [if_neg (by rw [hd hi.1]; simp), if_pos hi.2]
            · have k3 : ¬ isB l d false ((10 : UInt8).toNat : Int) = true := k2
              rw [if_neg k3, if_pos rfl, hvd]
              by_cases hdl : d < l.length
              · refine vd_no hdl ?_
                show (if digB _ = true then _ else if _ = 10 then _ else _) = _
                rw [if_neg (by rw [hd hdl]; simp), if_neg (fun h => k2 (isB_iff.2 ⟨hdl, h⟩))]
              · exact vd_end (by omega) rfl
          cases k4 : isB l c false 45
          · have e2 : takeA l c false 45 = c := by unfold takeA; rw [k4]; rfl
            rw [e2]
            have hs := vd_some (l := l) (st := stL) (ac := acL) (T0 := .tm0) (T := .tm) (p := digB) (a := c) rfl (fun hl h => by
              have := digB_iff.1 h
              show (if bt l c = 45 then _ else if digB (bt l c) = true then _ else _) = _
              rw [if_neg (by omega), if_pos h]) (fun hl h => by
              show (if bt l c = 45 then _ else if digB (bt l c) = true then _ else _) = _
              rw [if_neg (isB_f k4 hl), if_neg (by rw [h]; simp)]) (fun c h => by show (if _ then _ else _) = _; rw [if_pos h])
            have hle := someS_le l digB c false hb
            have hst := someS_stop (l := l) (p := digB) (a := c)
            cases hn5 : (someS l digB c false).2
            · rw [hn5, if_neg (by simp)] at hs
              exact fin _ hst (by omega) (htl.trans hs)
            · rw [hn5, if_pos rfl] at hs
              rw [word_no, if_pos rfl]
              exact htl.trans hs
          · have hk := isB_iff.1 k4
            have e2 : takeA l c false 45 = c + 1 := by unfold takeA; rw [k4]; rfl
            rw [e2]
            have hv5 : V l .tm0 c = V l .tmN (c + 1) := vd_yes hk.1 (by rw [hk.2]; rfl)
            have hs := vd_some (l := l) (st := stL) (ac := acL) (T0 := .tmN) (T := .tm) (p := digB) (a := c + 1) rfl (fun hl h => by show (if _ then _ else _) = _; rw [if_pos h]) (fun hl h => by show (if _ then _ else _) = _; rw [if_neg (by rw [h]; simp)]) (fun c h => by show (if _ then _ else _) = _; rw [if_pos h])
            have hle := someS_le l digB (c + 1) false (by omega)
            have hst := someS_stop (l := l) (p := digB) (a := c + 1)
            cases hn5 : (someS l digB (c + 1) false).2
            · rw [hn5, if_neg (by simp)] at hs
              exact fin _ hst (by omega) ((htl.trans hv5).trans hs)
            · rw [hn5, if_pos rfl] at hs
              rw [word_no, if_pos rfl]
              exact (htl.trans hv5).trans hs
      · rw [hxn, if_pos rfl] at hx
        rw [isB_no]
        simp only [Bool.false_eq_true, if_false]
        rw [word_no, if_pos rfl]
        exact hx
    · rw [hw, if_pos rfl] at ht
      rw [fieldsS_no, isB_no]
      simp only [Bool.false_eq_true, if_false]
      rw [word_no, if_pos rfl]
      exact ht
  · rw [hn, if_pos rfl] at hv
    rw [tagsS_no, word_no, fieldsS_no, isB_no]
    simp only [Bool.false_eq_true, if_false]
    rw [word_no, if_pos rfl]
    exact hv
theorem v_rows : ∀ f a acc, l.length < f + a → a ≤ l.length → V l .line a = if (rowsGo lineS l f a acc).2.2 = true then ((rowsGo lineS l f a acc).2.1 : Int) else -1
  | 0, a, acc, hf, hl => by omega
  | f + 1, a, acc, hf, hl => by
    unfold rowsGo
    by_cases h1 : l.length ≤ a
    · rw [if_pos h1]
      simp only [Bool.false_eq_true, if_false]
      exact vd_acc h1 rfl
    · rw [if_neg h1]
      have hv := v_line (l := l) (a := a) (by omega)
      have hle := lineS_le (l := l) (a := a) hl
      cases hn : (lineS l a).2.2
      · rw [hn, if_neg (by simp)] at hv
        simp only [Bool.false_eq_true, if_false]
        rw [hv.2]
        exact v_rows f _ _ (by omega) hle.2
      · rw [hn, if_pos rfl] at hv
        simp only [if_true]
        exact hv
theorem lineBad_eq (l : List UInt8) : lineBad l = vdGo stL acL .line l 0 := by
  unfold lineBad lineRows
  rw [← v_rows (l.length + 1) 0 [] (by omega) (by omega)]
  rfl
theorem lineBad_bd (l : List UInt8) : -1 ≤ lineBad l ∧ lineBad l ≤ l.length := by
  rw [lineBad_eq]
  have := vdGo_bd (st := stL) (ac := acL) l LQ.line 0
  omega
theorem lineBad_far {l : List UInt8} {k : Nat} (h : lineBad l = (k : Int)) (hk : k < l.length) (e : List UInt8) : lineBad (l.take (k + 1) ++ e) = k := by
  rw [lineBad_eq] at h ⊢
  exact vdGo_far l LQ.line 0 k h (by omega) e
theorem lineBad_pre {l : List UInt8} {k : Nat} (h : lineBad l = (k : Int)) : lineBad (l.take k) = k ∨ lineBad (l.take k) = -1 := by
  rw [lineBad_eq] at h ⊢
  exact vdGo_pre l LQ.line k h
theorem lineBad_twice {l : List UInt8} (h : lineBad l = -1) : lineBad (l ++ l) = -1 := by
  rw [lineBad_eq] at h ⊢
  obtain ⟨q, hq, ht⟩ := vdGo_app l LQ.line h
  have : q = LQ.line := by cases q <;> simp [acL] at hq ⊢
  subst this
  rw [ht l]
  exact vdGo_neg l _ _ _ h
/-- The ends that are looked for. -/
def endsL : List (List UInt8) := [[97, 44, 97, 61, 97, 32, 97, 61, 49, 46, 49, 32, 49, 10], [32, 32, 97, 61, 49, 10], [32, 61, 97, 32, 97, 61, 49, 10], [32, 61, 49, 10], [34, 34, 10], [116, 114, 117, 101, 10], [102, 97, 108, 115, 101, 10], [97, 61, 34, 34, 10]]
def restU : List (List UInt8) := [[], [128], [160], [144], [128, 128], [160, 128], [144, 128], [128, 128, 128], [144, 128, 128]]
/-- Which end closes a state: of restU, of endsL, from where. -/
def closeU : UQ → Nat
  | .u1 => 1 | .u2 => 4 | .u3 => 7 | .e0 => 5 | .ed => 4 | .f0 => 8 | .f4 => 7
def closeL : LQ → Nat × Nat × Nat
  | .line => (0, 0, 14) | .nm => (0, 1, 1) | .nmE => (0, 1, 0) | .tk0 => (0, 0, 2) | .tk => (0, 0, 3) | .tkE => (0, 2, 0) | .tv0 => (0, 0, 4) | .tv => (0, 0, 5) | .tvE => (0, 1, 0) | .tvU u => (closeU u, 0, 5)
  | .fk0 => (0, 1, 2) | .fk => (0, 1, 3) | .fkE => (0, 3, 0) | .fv => (0, 1, 4) | .t1 => (0, 5, 1) | .t2 => (0, 5, 2) | .t3 => (0, 5, 3) | .f1 => (0, 6, 1) | .f2 => (0, 6, 2) | .f3 => (0, 6, 3) | .f4 => (0, 6, 4)
  | .ve => (0, 1, 5) | .neg => (0, 1, 4) | .iM => (0, 1, 5) | .iP => (0, 1, 5) | .dot => (0, 1, 4) | .fr => (0, 1, 5) | .qq => (0, 4, 1) | .qE => (0, 4, 0) | .qU u => (closeU u, 4, 1) | .tm0 => (0, 1, 4) | .tmN => (0, 1, 4) | .tm => (0, 1, 5)
theorem close_ok (q : LQ) : (closeL q).1 < 9 ∧ (closeL q).2.1 < 8 ∧ (closeL q).2.2 ≤ (endsL.getD (closeL q).2.1 []).length ∧ vdGo stL acL q (restU.getD (closeL q).1 [] ++ (endsL.getD (closeL q).2.1 []).drop (closeL q).2.2) 0 = -1 := by
  cases q
  case tvU u => cases u <;> exact ⟨by decide, by decide, by decide, by decide +kernel⟩
  case qU u => cases u <;> exact ⟨by decide, by decide, by decide, by decide +kernel⟩
  all_goals exact ⟨by decide, by decide, by decide, by decide +kernel⟩
theorem line_closes {l : List UInt8} {k : Nat} (hk : k ≤ l.length) (h : lineBad l = -1 ∨ (k : Int) ≤ lineBad l) : ∃ r i j, r < 9 ∧ i < 8 ∧ j ≤ (endsL.getD i []).length ∧ lineBad (l.take k ++ (restU.getD r [] ++ (endsL.getD i []).drop j)) = -1 := by
  rw [lineBad_eq] at h
  obtain ⟨q, hq, _⟩ := vdGo_reach (st := stL) (ac := acL) k l LQ.line 0 hk (by simpa using h)
  obtain ⟨h1, h2, h3, h4⟩ := close_ok q
  refine ⟨_, _, _, h1, h2, h3, ?_⟩
  rw [lineBad_eq, hq]
  exact vdGo_neg _ _ _ _ h4
end
end Go.Proofs.YtodgfapgmmjpcaaGreatDoor
