/- Labels: what the package and the reference answer, as plain functions (no program in sight). -/
import Derived.Test.YtjffagffjcbolaaUtfDef
import Derived.Sort.Walk0
import Derived.Lib.Bytealg
namespace Go.Proofs.Ytjffagffjcbolaa
set_option linter.unusedVariables false
set_option linter.unusedSimpArgs false
open Go.RowKit
abbrev Lab := ByteArray × ByteArray
def labCell (x : Lab) : List Value := [.string x.1, .string x.2]
def nmL (x : Lab) : List UInt8 := x.1.data.toList
def vlL (x : Lab) : List UInt8 := x.2.data.toList
/-- May a text be a name? -/
def inkB (l : List UInt8) : Bool := l.all fun c => decide (32 ≤ c.toNat) && decide (c.toNat ≠ 127)
def nameB (l : List UInt8) : Bool := inkB l && (decide (l ≠ []) && (decide (l.length ≤ 60) && decide (badU l < 0)))
def valB (l : List UInt8) : Bool := decide (l.length ≤ 60) && decide (badU l < 0)
theorem inkB_iff (l : List UInt8) : inkB l = true ↔ ∀ j, j < l.length → 32 ≤ bt l j ∧ bt l j ≠ 127 := by
  unfold inkB
  rw [List.all_eq_true]
  constructor
  · intro h j hj
    have := h _ (List.getElem_mem hj)
    simp only [Bool.and_eq_true, decide_eq_true_eq] at this
    rw [bt_get hj]; omega
  · intro h c hc
    obtain ⟨j, hj, rfl⟩ := List.getElem_of_mem hc
    have := h j hj
    rw [bt_get hj] at this
    simp only [Bool.and_eq_true, decide_eq_true_eq]; omega
/-- May labels be? -/
def goodAt (L : List Lab) (i : Nat) : Bool := nameB (nmL (L.getD i default)) && (valB (vlL (L.getD i default)) && (decide (i = 0) || decide (nmL (L.getD (i - 1) default) < nmL (L.getD i default))))
def goodTo (L : List Lab) (k : Nat) : Bool := (List.range k).all (goodAt L)
def goodL (L : List Lab) : Bool := goodTo L L.length && decide (L.length ≤ 8)
theorem goodTo_succ (L : List Lab) (k : Nat) : goodTo L (k + 1) = (goodTo L k && goodAt L k) := by
  unfold goodTo; rw [List.range_succ, List.all_append]; simp
theorem goodTo_false {L : List Lab} {k n : Nat} (h : goodAt L k = false) (hk : k < n) : goodTo L n = false := by
  unfold goodTo
  rw [List.all_eq_false]
  exact ⟨k, List.mem_range.2 hk, by rw [h]; exact Bool.false_ne_true⟩
/-- The first one of a name. -/
def getL (L : List Lab) (n : List UInt8) : Option Lab := L.find? fun x => nmL x == n
def getV (r : Option Lab) : ByteArray := match r with
  | some x => x.2
  | none => ⟨#[]⟩
/-- Those without some names. -/
def outL (L : List Lab) (names : List ByteArray) : List Lab := L.filter fun x => !(names.any fun n => n.data.toList == nmL x)
/-! ### which of two texts, labels, rows is less -/
theorem cmpB_tri : ∀ a b : List UInt8, (a < b → Lib.compareBytes a b = -1) ∧ (a = b → Lib.compareBytes a b = 0) ∧ (b < a → Lib.compareBytes a b = 1)
  | [], [] => ⟨fun h => absurd h (List.lt_irrefl _), fun _ => rfl, fun h => absurd h (List.lt_irrefl _)⟩
  | [], y :: b => ⟨fun _ => rfl, fun h => by (cases h), fun h => absurd h (by simp)⟩
  | x :: a, [] => ⟨fun h => absurd h (by simp), fun h => by (cases h), fun _ => rfl⟩
  | x :: a, y :: b => by
    have ih := cmpB_tri a b
    rw [Lib.compareBytes]
    refine ⟨fun h => ?_, fun h => ?_, fun h => ?_⟩
    · rcases (List.cons_lt_cons_iff).1 h with h | ⟨rfl, h2⟩
      · rw [if_pos h]
      · rw [if_neg (UInt8.lt_irrefl _), if_neg (UInt8.lt_irrefl _)]; exact ih.1 h2
    · injection h with h1 h2
      subst h1; subst h2
      rw [if_neg (UInt8.lt_irrefl _), if_neg (UInt8.lt_irrefl _)]; exact ih.2.1 rfl
    · rcases (List.cons_lt_cons_iff).1 h with h | ⟨rfl, h2⟩
      · rw [if_neg (fun k => absurd (UInt8.lt_trans h k) (UInt8.lt_irrefl _)), if_pos h]
      · rw [if_neg (UInt8.lt_irrefl _), if_neg (UInt8.lt_irrefl _)]; exact ih.2.2 h2
theorem bs3 (a b : List UInt8) : a < b ∨ a = b ∨ b < a := by
  by_cases h : a < b
  · exact .inl h
  · by_cases k : b < a
    · exact .inr (.inr k)
    · exact .inr (.inl (List.le_antisymm (List.not_lt.1 k) (List.not_lt.1 h)))
theorem cmpB_neg (a b : List UInt8) : Lib.compareBytes a b < 0 ↔ a < b := by
  have h := cmpB_tri a b
  rcases bs3 a b with k | k | k
  · simp [h.1 k, k]
  · rw [h.2.1 k]; subst k; simp [List.lt_irrefl]
  · rw [h.2.2 k]; simp; exact List.le_of_lt k
theorem cmpB_zero (a b : List UInt8) : Lib.compareBytes a b = 0 ↔ a = b := by
  have h := cmpB_tri a b
  rcases bs3 a b with k | k | k
  · rw [h.1 k]; simp; rintro rfl; exact List.lt_irrefl _ k
  · exact ⟨fun _ => k, fun _ => h.2.1 k⟩
  · rw [h.2.2 k]; simp; rintro rfl; exact List.lt_irrefl _ k
theorem cmpB_swap (a b : List UInt8) : Lib.compareBytes b a = - Lib.compareBytes a b := by
  have h := cmpB_tri a b
  have g := cmpB_tri b a
  rcases bs3 a b with k | k | k
  · rw [h.1 k, g.2.2 k]; rfl
  · rw [h.2.1 k, g.2.1 k.symm]; rfl
  · rw [h.2.2 k, g.1 k]
theorem cmpB_bd (a b : List UInt8) : -1 ≤ Lib.compareBytes a b ∧ Lib.compareBytes a b ≤ 1 := by
  have h := cmpB_tri a b
  rcases bs3 a b with k | k | k
  · rw [h.1 k]; omega
  · rw [h.2.1 k]; omega
  · rw [h.2.2 k]; omega
/-- Of two labels: by names, then by values. -/
def cmpLab (x y : Lab) : Int := if Lib.compareBytes (nmL x) (nmL y) ≠ 0 then Lib.compareBytes (nmL x) (nmL y) else Lib.compareBytes (vlL x) (vlL y)
theorem cmpLab_bd (x y : Lab) : -1 ≤ cmpLab x y ∧ cmpLab x y ≤ 1 := by
  unfold cmpLab; split
  · exact cmpB_bd _ _
  · exact cmpB_bd _ _
theorem cmpLab_swap (x y : Lab) : cmpLab y x = - cmpLab x y := by
  unfold cmpLab
  rw [cmpB_swap (nmL x) (nmL y), cmpB_swap (vlL x) (vlL y)]
  split <;> split <;> omega
theorem lab_ext {x y : Lab} (h : nmL x = nmL y) (k : vlL x = vlL y) : x = y := by
  obtain ⟨⟨⟨a⟩⟩, ⟨⟨b⟩⟩⟩ := x
  obtain ⟨⟨⟨c⟩⟩, ⟨⟨d⟩⟩⟩ := y
  simp only [nmL, vlL] at h k
  subst h; subst k; rfl
theorem cmpLab_zero (x y : Lab) : cmpLab x y = 0 ↔ x = y := by
  unfold cmpLab
  split
  · rename_i h
    exact ⟨fun k => absurd k h, fun k => absurd ((cmpB_zero _ _).2 (by rw [k])) h⟩
  · rename_i h
    have h := (cmpB_zero _ _).1 (Decidable.not_not.1 h)
    rw [cmpB_zero]
    exact ⟨fun k => lab_ext h k, fun k => by rw [k]⟩
/-- Of two rows: one by one, a row's beginning ahead. -/
def cmpRow : List Lab → List Lab → Int
  | [], [] => 0
  | [], _ :: _ => -1
  | _ :: _, [] => 1
  | x :: a, y :: b => if cmpLab x y ≠ 0 then cmpLab x y else cmpRow a b
theorem cmpRow_bd : ∀ a b : List Lab, -1 ≤ cmpRow a b ∧ cmpRow a b ≤ 1
  | [], [] => by simp [cmpRow]
  | [], _ :: _ => by simp [cmpRow]
  | _ :: _, [] => by simp [cmpRow]
  | x :: a, y :: b => by
    rw [cmpRow]
    have := cmpLab_bd x y
    have := cmpRow_bd a b
    split <;> omega
theorem cmpRow_swap : ∀ a b : List Lab, cmpRow b a = - cmpRow a b
  | [], [] => rfl
  | [], _ :: _ => rfl
  | _ :: _, [] => rfl
  | x :: a, y :: b => by
    rw [cmpRow, cmpRow, cmpLab_swap x y, cmpRow_swap a b]
    split <;> split <;> omega
theorem cmpRow_zero : ∀ a b : List Lab, cmpRow a b = 0 ↔ a = b
  | [], [] => by simp [cmpRow]
  | [], _ :: _ => by simp [cmpRow]
  | _ :: _, [] => by simp [cmpRow]
  | x :: a, y :: b => by
    rw [cmpRow]
    split
    · rename_i h
      exact ⟨fun k => absurd k h, fun k => by injection k with k _; exact absurd ((cmpLab_zero x y).2 k) h⟩
    · rename_i h
      have h := (cmpLab_zero x y).1 (Decidable.not_not.1 h)
      rw [cmpRow_zero a b, h]
      simp
theorem cmpLab_neg (x y : Lab) : cmpLab x y < 0 ↔ nmL x < nmL y ∨ nmL x = nmL y ∧ vlL x < vlL y := by
  unfold cmpLab
  split
  · rename_i h
    rw [cmpB_neg]
    exact ⟨.inl, fun k => k.elim id fun k => absurd ((cmpB_zero _ _).2 k.1) h⟩
  · rename_i h
    have h := (cmpB_zero _ _).1 (Decidable.not_not.1 h)
    rw [cmpB_neg, h]
    exact ⟨fun k => .inr ⟨rfl, k⟩, fun k => k.elim (fun k => absurd k (List.lt_irrefl _)) (·.2)⟩
theorem cmpLab_trans {x y z : Lab} (h : cmpLab x y < 0) (k : cmpLab y z < 0) : cmpLab x z < 0 := by
  rw [cmpLab_neg] at *
  rcases h with h | ⟨h, h'⟩ <;> rcases k with k | ⟨k, k'⟩
  · exact .inl (List.lt_trans h k)
  · exact .inl (k ▸ h)
  · exact .inl (h ▸ k)
  · exact .inr ⟨h.trans k, List.lt_trans h' k'⟩
theorem cmpRow_trans : ∀ a b c : List Lab, cmpRow a b ≤ 0 → cmpRow b c ≤ 0 → cmpRow a c ≤ 0
  | [], _, [], _, _ => by simp [cmpRow]
  | [], _, _ :: _, _, _ => by simp [cmpRow]
  | x :: a, [], c, h, _ => by simp [cmpRow] at h
  | x :: a, y :: b, [], _, k => by simp [cmpRow] at k
  | x :: a, y :: b, z :: c, h, k => by
    have b1 := cmpLab_bd x y
    have b2 := cmpLab_bd y z
    have ih := cmpRow_trans a b c
    rw [cmpRow] at h k ⊢
    by_cases e1 : cmpLab x y = 0
    · obtain rfl := (cmpLab_zero x y).1 e1
      by_cases e2 : cmpLab x z = 0
      · rw [if_neg (by simpa using e1)] at h
        rw [if_neg (by simpa using e2)] at k
        rw [if_neg (by simpa using e2)]
        exact ih h k
      · rw [if_pos e2] at k
        rw [if_pos e2]; exact k
    · rw [if_pos e1] at h
      by_cases e2 : cmpLab y z = 0
      · obtain rfl := (cmpLab_zero y z).1 e2
        rw [if_pos e1]; exact h
      · rw [if_pos e2] at k
        have h3 := cmpLab_trans (x := x) (y := y) (z := z) (by omega) (by omega)
        rw [if_pos (by omega)]; omega
/-- A row's beginning. -/
theorem cmpRow_take : ∀ (a : List Lab) (k : Nat), k ≤ a.length → cmpRow (a.take k) a ≤ 0 ∧ (cmpRow (a.take k) a = 0 ↔ k = a.length)
  | [], 0, _ => by simp [cmpRow]
  | x :: a, 0, _ => by simp [cmpRow]
  | x :: a, k + 1, h => by
    have ih := cmpRow_take a k (by simpa using h)
    rw [List.take_succ_cons, cmpRow, if_neg (by simpa using (cmpLab_zero x x).2 rfl)]
    simpa using ih
/-! ### sorting -/
/-- A row's labels, rising. -/
def SortedOf (L s : List Lab) : Prop := s.Perm L ∧ s.Pairwise fun x y => nmL x < nmL y
theorem sortedOf_unique {L s t : List Lab} (h : SortedOf L s) (k : SortedOf L t) : s = t :=
  (h.1.trans k.1.symm).eq_of_pairwise (fun a b _ _ h1 h2 => absurd (List.lt_trans h1 h2) (List.lt_irrefl _)) h.2 k.2
def distinct (L : List Lab) : Bool := decide (L.map nmL).Nodup
def sortL (L : List Lab) : Option (List Lab) := if distinct L = true then some (L.mergeSort fun x y => decide (nmL x ≤ nmL y)) else none
theorem pw_nodup {s : List Lab} (h : s.Pairwise fun x y => nmL x < nmL y) : (s.map nmL).Nodup := by
  unfold List.Nodup
  rw [List.pairwise_map]
  exact h.imp fun k e => by rw [e] at k; exact List.lt_irrefl _ k
theorem sortL_some {L s : List Lab} (h : SortedOf L s) : sortL L = some s := by
  have hd : distinct L = true := decide_eq_true (((h.1.map nmL).nodup_iff).1 (pw_nodup h.2))
  unfold sortL
  rw [if_pos hd]
  have hm := List.pairwise_mergeSort (le := fun a b : Lab => decide (nmL a ≤ nmL b)) (fun a b c h k => by
    simp only [decide_eq_true_eq] at h k ⊢; exact List.le_trans h k) (fun a b => by
    simp only [Bool.or_eq_true, decide_eq_true_eq]; exact List.le_total _ _) L
  have hp := List.mergeSort_perm L fun x y => decide (nmL x ≤ nmL y)
  have hn : ((L.mergeSort fun x y => decide (nmL x ≤ nmL y)).map nmL).Nodup := ((hp.map nmL).nodup_iff).2 (of_decide_eq_true hd)
  unfold List.Nodup at hn
  rw [List.pairwise_map] at hn
  have h3 : (L.mergeSort fun x y => decide (nmL x ≤ nmL y)).Pairwise fun x y => nmL x < nmL y := (hm.and hn).imp fun ⟨q, r⟩ => by
    rcases bs3 _ _ with k | k | k
    · exact k
    · exact absurd k r
    · exact absurd (of_decide_eq_true q) (List.not_le.2 k)
  rw [sortedOf_unique (⟨hp, h3⟩ : SortedOf L _) h]
theorem sortL_none {L : List Lab} (h : distinct L = false) : sortL L = none := by
  unfold sortL; rw [if_neg (by rw [h]; exact Bool.false_ne_true)]
theorem distinct_perm {L M : List Lab} (h : L.Perm M) : distinct L = distinct M := by
  unfold distinct
  exact decide_eq_decide.2 ((h.map nmL).nodup_iff)
theorem distinct_two {L : List Lab} {i j : Nat} (hi : i < j) (hj : j < L.length) (h : nmL (L.getD i default) = nmL (L.getD j default)) : distinct L = false := by
  unfold distinct
  refine decide_eq_false fun hn => ?_
  have := List.pairwise_iff_getElem.1 hn i j (by simp; omega) (by simp; omega) hi
  rw [List.getD_eq_getElem?_getD, List.getD_eq_getElem?_getD, List.getElem?_eq_getElem (by omega), List.getElem?_eq_getElem hj] at h
  simp only [List.getElem_map] at this
  exact this h
end Go.Proofs.Ytjffagffjcbolaa
