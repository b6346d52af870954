/- The reference's rules: plain laws (no program in sight). -/
import Derived.Test.YtjffagffjcbolaaTenB
namespace Go.Proofs.Ytjffagffjcbolaa
set_option linter.unusedVariables false
set_option linter.unusedSimpArgs false
open Go.RowKit
def mtB (p : ByteArray) : Bool := isM p || isT p
/-- How many metrics are among the first parts. -/
def cntM (ps : List ByteArray) (k : Nat) : Nat := (ps.take k).countP mtB
theorem cntM_zero (ps : List ByteArray) : cntM ps 0 = 0 := rfl
theorem cntM_succ {ps : List ByteArray} {k : Nat} {x : ByteArray} (h : ps[k]? = some x) : cntM ps (k + 1) = cntM ps k + (if mtB x = true then 1 else 0) := by
  unfold cntM
  rw [List.take_add_one, h, List.countP_append]
  simp [List.countP_cons]
theorem cntM_le (ps : List ByteArray) (k : Nat) : cntM ps k ≤ k := Nat.le_trans List.countP_le_length (List.length_take_le _ _)
theorem named_cnt (ps : List ByteArray) : namedB ps = decide (0 < cntM ps ps.length) := by
  unfold namedB cntM
  rw [List.take_length]
  apply bcl
  rw [List.any_eq_true, decide_eq_true_eq, List.countP_pos_iff]
  rfl
theorem isLb_same {x y : ByteArray} (h : x.data.toList = y.data.toList) : isLb x = isLb y := by
  unfold isLb isM isT isK; rw [h]
theorem cntL_le {ls : List ByteArray} (h : ls.Pairwise fun x y => x.data.toList ≠ y.data.toList) (s : ByteArray) : cntL ls s ≤ 1 := by
  induction ls with
  | nil => exact Nat.zero_le _
  | cons a r ih =>
    rw [List.pairwise_cons] at h
    have := ih h.2
    unfold cntL at this ⊢
    rw [List.countP_cons]
    by_cases e : (a.data.toList == s.data.toList) = true
    · have e0 : r.countP (fun p => p.data.toList == s.data.toList) = 0 := by
        rw [List.countP_eq_zero]
        intro y hy hh
        rw [beq_iff_eq] at hh e
        exact h.1 y hy (e.trans hh.symm)
      rw [e0, if_pos e]; exact Nat.le_refl _
    · rw [if_neg e]; exact this
/-- All labels of parts are words, and each is there once. -/
def LbOk (ps : List ByteArray) (k : Nat) : Prop := ∀ j x, j < k → ps[j]? = some x → isLb x = true → textB x = true ∧ ∀ i y, i < j → ps[i]? = some y → y.data.toList ≠ x.data.toList
theorem lb_fine {ps : List ByteArray} (h : LbOk ps ps.length) : (lbsT ps).any (wrongP (lbsT ps)) = false := by
  have hp : (lbsT ps).Pairwise fun x y => x.data.toList ≠ y.data.toList := by
    unfold lbsT
    rw [List.pairwise_filter, List.pairwise_iff_getElem]
    intro i j hi hj hij _ hb
    exact (h j _ hj (List.getElem?_eq_getElem hj) hb).2 i _ hij (List.getElem?_eq_getElem hi)
  rw [List.any_eq_false]
  intro x hx
  have hc := cntL_le hp x
  obtain ⟨hm, hl⟩ := List.mem_filter.1 hx
  obtain ⟨j, hj, rfl⟩ := List.getElem_of_mem hm
  have ht := (h j _ hj (List.getElem?_eq_getElem hj) hl).1
  unfold wrongP
  rw [ht]
  simp
  omega
theorem lb_word {ps : List ByteArray} {k : Nat} {x : ByteArray} (hx : ps[k]? = some x) (hl : isLb x = true) (ht : textB x = false) : (lbsT ps).any (wrongP (lbsT ps)) = true :=
  List.any_eq_true.2 ⟨x, List.mem_filter.2 ⟨List.mem_of_getElem? hx, hl⟩, by unfold wrongP; rw [ht]; rfl⟩
theorem lb_twice {ps : List ByteArray} {i k : Nat} {x y : ByteArray} (hx : ps[k]? = some x) (hl : isLb x = true) (hi : i < k) (hy : ps[i]? = some y) (he : y.data.toList = x.data.toList) : (lbsT ps).any (wrongP (lbsT ps)) = true := by
  refine List.any_eq_true.2 ⟨x, List.mem_filter.2 ⟨List.mem_of_getElem? hx, hl⟩, ?_⟩
  have hs : [y, x].Sublist ps := by
    rw [← List.take_append_drop k ps]
    have h1 : [y].Sublist (ps.take k) := List.singleton_sublist.2 (List.mem_of_getElem? (i := i) (by rw [List.getElem?_take, if_pos hi]; exact hy))
    have h2 : [x].Sublist (ps.drop k) := List.singleton_sublist.2 (List.mem_of_getElem? (i := 0) (by rw [List.getElem?_drop]; exact hx))
    exact List.Sublist.append h1 h2
  have hf : [y, x].Sublist (lbsT ps) := by
    have := hs.filter isLb
    have e : [y, x].filter isLb = [y, x] := by
      have hy2 : isLb y = true := by rw [isLb_same he]; exact hl
      simp [hl, hy2]
    rw [e] at this; exact this
  have hc : 2 ≤ cntL (lbsT ps) x := by
    unfold cntL
    refine Nat.le_trans ?_ (hf.countP_le)
    have hd : y.data = x.data := Array.toList_inj.1 he
    simp [hd]
  unfold wrongP
  have : decide (1 < cntL (lbsT ps) x) = true := decide_eq_true (by omega)
  rw [this, Bool.or_true]
theorem parts_no {ps : List ByteArray} (h : (lbsT ps).any (wrongP (lbsT ps)) = true) : partsB ps = false := by
  unfold partsB; rw [h]; simp
theorem parts_tail {ps : List ByteArray} (h : tailOk ps = false) : partsB ps = false := by unfold partsB; rw [h]; rfl
theorem parts_end {ps : List ByteArray} (h1 : tailOk ps = true) (h2 : LbOk ps ps.length) : partsB ps = (decide (0 < cntM ps ps.length) && decide (ps.length ≤ 12)) := by
  unfold partsB
  rw [h1, lb_fine h2, named_cnt]; simp
/-! ### labels beside -/
theorem cntL_none {ls : List ByteArray} {s : ByteArray} : cntL ls s = 0 ↔ ∀ p ∈ ls, p.data.toList ≠ s.data.toList := by
  unfold cntL
  rw [List.countP_eq_zero]
  simp
theorem cntL_parts {ps : List ByteArray} {s : ByteArray} : cntL (lbsT ps) s = 0 ↔ ∀ (j : Nat) x, j < ps.length → ps[j]? = some x → isLb x = true → x.data.toList ≠ s.data.toList := by
  rw [cntL_none]
  constructor
  · intro h j x _ hx hl
    exact h x (List.mem_filter.2 ⟨List.mem_of_getElem? hx, hl⟩)
  · intro h p hp
    obtain ⟨hm, hl⟩ := List.mem_filter.1 hp
    obtain ⟨j, hj, rfl⟩ := List.getElem_of_mem hm
    exact h j _ hj (List.getElem?_eq_getElem hj) hl
theorem lbs_cnt {ps : List ByteArray} {k : Nat} {x : ByteArray} (h : ps[k]? = some x) : (lbsT (ps.take (k + 1))).length = (lbsT (ps.take k)).length + (if isLb x = true then 1 else 0) := by
  cases e : isLb x
  · rw [lb_no h e]; simp
  · rw [lb_yes h e]; simp
theorem extra_end {ps : List ByteArray} {L : List Lab} (h : extraTo ps L L.length = true) : extraB L ps = decide (L.length + (lbsT ps).length ≤ 8) := by
  unfold extraB; rw [h]; rfl
theorem extraB_no {ps : List ByteArray} {L : List Lab} {k : Nat} (h : extraAt ps L k = false) (hk : k < L.length) : extraB L ps = false := by
  unfold extraB extraTo
  have : (List.range L.length).all (extraAt ps L) = false := List.all_eq_false.2 ⟨k, List.mem_range.2 hk, by rw [h]; simp⟩
  rw [this]; rfl
end Go.Proofs.Ytjffagffjcbolaa
