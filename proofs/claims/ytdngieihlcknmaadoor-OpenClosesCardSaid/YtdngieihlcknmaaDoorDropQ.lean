/- A text's rest behind a place; scalars (no program in sight). -/
import Derived.Test.YtdngieihlcknmaaDoorLineDfa
import Derived.Test.YtdngieihlcknmaaDoorUtf
namespace Go.Proofs.YtdngieihlcknmaaDoor
set_option linter.unusedVariables false
set_option linter.unusedSimpArgs false
open Go.RowKit
set_option maxRecDepth 4000
section
variable {l : List UInt8}
theorem drop_bt {p : Nat} {c : UInt8} {r : List UInt8} (h : l.drop p = c :: r) : p < l.length ∧ bt l p = c.toNat ∧ l.getD p 0 = c := by
  have h1 : p < l.length := by
    rcases Nat.lt_or_ge p l.length with h' | h'
    · exact h'
    · rw [List.drop_of_length_le h'] at h; cases h
  have h2 : l[p]? = some c := by
    rw [List.drop_eq_getElem_cons h1] at h
    injection h with h3 _
    rw [List.getElem?_eq_getElem h1, h3]
  have h3 : l.getD p 0 = c := by rw [List.getD_eq_getElem?_getD, h2]; rfl
  exact ⟨h1, by unfold bt; rw [h3], h3⟩
theorem drop_app {p : Nat} {x r : List UInt8} (h : l.drop p = x ++ r) : l.drop (p + x.length) = r := by
  rw [← List.drop_drop, h, List.drop_left]
theorem drop_one {p : Nat} {c : UInt8} {r : List UInt8} (h : l.drop p = c :: r) : l.drop (p + 1) = r := drop_app (x := [c]) h
theorem drop_cut {p : Nat} {x r : List UInt8} (h : l.drop p = x ++ r) : cutL l p (p + x.length) = x := by
  unfold cutL; rw [h, Nat.add_sub_cancel_left, List.take_left]
theorem drop_isB {p : Nat} {c : UInt8} {r : List UInt8} (h : l.drop p = c :: r) (d : Int) : isB l p false d = ((c.toNat : Int) == d) := by
  obtain ⟨h1, h2, _⟩ := drop_bt h
  unfold isB pkB
  rw [h2]; simp [h1]
theorem drop_nil {p : Nat} (h : l.drop p = []) (hp : p ≤ l.length) : p = l.length := by
  have := congrArg List.length h
  rw [List.length_drop, List.length_nil] at this; omega
/-- One scalar's bytes. -/
def Scal (x : List UInt8) : Prop := x ≠ [] ∧ frontU x 0 = (x.length, true)
theorem bt_drop (p k : Nat) {x r : List UInt8} (h : l.drop p = x ++ r) (hk : k < x.length) : bt l (p + k) = bt x k := by
  have h2 : (l.drop p)[k]? = x[k]? := by rw [h, List.getElem?_append_left hk]
  rw [List.getElem?_drop] at h2
  unfold bt
  rw [List.getD_eq_getElem?_getD, List.getD_eq_getElem?_getD, h2]
theorem tailB_drop {p k : Nat} {x r : List UInt8} (h : l.drop p = x ++ r) (hk : k < x.length) : tailB l p k = tailB x 0 k := by
  have h0 := bt_drop p 0 h (by omega)
  have h1 := bt_drop p k h hk
  have hl : p + k < l.length := by
    have := congrArg List.length h
    rw [List.length_drop, List.length_append] at this; omega
  unfold tailB
  rw [Nat.add_zero] at h0
  rw [h0, h1, Nat.zero_add]
  simp [hl, hk]
theorem frGo_drop {p : Nat} {x r : List UInt8} (h : l.drop p = x ++ r) : ∀ f k, frGo x 0 x.length f k = (x.length, true) → frGo l p x.length f k = (x.length, true)
  | 0, k, hk => hk
  | f + 1, k, hk => by
    unfold frGo at hk ⊢
    by_cases hlt : k < x.length
    · rw [if_pos hlt] at hk ⊢
      rw [tailB_drop h hlt]
      by_cases ht : tailB x 0 k = true
      · rw [if_pos ht] at hk ⊢; exact frGo_drop h f _ hk
      · rw [if_neg ht] at hk; injection hk with _ e; cases e
    · rw [if_neg hlt]
theorem front_drop {p : Nat} {x r : List UInt8} (hx : Scal x) (h : l.drop p = x ++ r) : frontU l p = (x.length, true) := by
  obtain ⟨hne, hf⟩ := hx
  have hpos : 0 < x.length := List.length_pos_iff.2 hne
  have h0 := bt_drop p 0 h hpos
  rw [Nat.add_zero] at h0
  unfold frontU at hf ⊢
  rw [h0]
  split at hf
  · injection hf with _ e; cases e
  · rename_i hz
    rw [if_neg hz]
    have hn := frGo_le x 0 (uSize (bt x 0)) 4 1 (by omega) (by have := uSize_le (bt x 0); omega) (by omega)
    rw [hf] at hn
    have : x.length = uSize (bt x 0) := hn.2.2.2 rfl
    rw [← this] at hf ⊢
    exact frGo_drop h 4 1 hf
/-- The bytes behind a scalar's first one. -/
theorem scal_tail {x : List UInt8} (h : Scal x) (h2 : 2 ≤ x.length) : ∀ k, k < x.length → 128 ≤ bt x k := by
  obtain ⟨hne, hf⟩ := h
  unfold frontU at hf
  split at hf
  · injection hf with _ e; cases e
  rename_i hz
  have hn := frGo_le x 0 (uSize (bt x 0)) 4 1 (by omega) (by have := uSize_le (bt x 0); omega) (by omega)
  rw [hf] at hn
  have hu : x.length = uSize (bt x 0) := hn.2.2.2 rfl
  have hb0 : 128 ≤ bt x 0 := by
    rcases Int.lt_or_le (bt x 0) 128 with h' | h'
    · unfold uSize at hu; rw [if_pos h'] at hu; omega
    · exact h'
  have hgo : ∀ f k, 1 ≤ k → frGo x 0 (uSize (bt x 0)) f k = (x.length, true) → uSize (bt x 0) ≤ f + k → ∀ j, k ≤ j → j < x.length → 128 ≤ bt x j := by
    intro f
    induction f with
    | zero => intro k h1 _ hle j hj hj2; omega
    | succ f ih =>
      intro k h1 hk hle j hj hj2
      unfold frGo at hk
      by_cases hlt : k < uSize (bt x 0)
      · rw [if_pos hlt] at hk
        by_cases ht : tailB x 0 k = true
        · rw [if_pos ht] at hk
          rcases Nat.lt_or_ge k j with h' | h'
          · exact ih (k + 1) (by omega) hk (by omega) j h' hj2
          · obtain rfl : j = k := by omega
            have := ((tailB_iff x 0 j).1 ht).2.1
            rw [Nat.zero_add] at this
            have hlo : 128 ≤ kLo (bt x 0) j := by unfold kLo uLo; (repeat' split) <;> omega
            omega
        · rw [if_neg ht] at hk; injection hk with _ e; cases e
      · omega
  intro k hk
  rcases Nat.eq_zero_or_pos k with rfl | h'
  · exact hb0
  · exact hgo 4 1 (by omega) hf (by have := uSize_le (bt x 0); omega) k h' hk
/-- A text without a fault is a row of scalars. -/
theorem badGo_scal : ∀ f a, l.length ≤ f + a → badGo l f a = -1 → ∃ xs : List (List UInt8), l.drop a = xs.flatten ∧ ∀ x ∈ xs, Scal x
  | 0, a, hf, _ => ⟨[], by rw [List.drop_of_length_le (by omega)]; rfl, by simp⟩
  | f + 1, a, hf, h => by
    unfold badGo at h
    by_cases hlt : a < l.length
    · rw [if_pos hlt] at h
      have hfl := front_le l a hlt
      by_cases hq : (frontU l a).2 = true
      · rw [if_pos hq] at h
        have h1 := hfl.2.2 hq
        obtain ⟨xs, hx, hall⟩ := badGo_scal f (a + (frontU l a).1) (by omega) h
        have hlen : (cutL l a (a + (frontU l a).1)).length = (frontU l a).1 := by rw [cutL_len _ _ _ hfl.2.1]; omega
        have hd : l.drop a = cutL l a (a + (frontU l a).1) ++ l.drop (a + (frontU l a).1) := by
          unfold cutL; rw [Nat.add_sub_cancel_left, ← List.drop_drop, List.take_append_drop]
        refine ⟨cutL l a (a + (frontU l a).1) :: xs, by rw [List.flatten_cons, ← hx]; exact hd, fun x hx' => ?_⟩
        rcases List.mem_cons.1 hx' with rfl | hx'
        · refine ⟨fun e => by rw [e] at hlen; simp at hlen; omega, ?_⟩
          have e4 : (cutL l a (a + (frontU l a).1)).take 4 = cutL l a (a + (frontU l a).1) := List.take_of_length_le (by omega)
          rw [hlen]
          generalize hx0 : cutL l a (a + (frontU l a).1) = x at hlen hd
          have hb0 : bt l a = bt x 0 := by have := bt_drop a 0 hd (by omega); simpa using this
          have hu : (frontU l a).1 = uSize (bt l a) := by
            unfold frontU at hq hlen ⊢
            split at hq
            · cases hq
            · rename_i hz
              rw [if_neg hz]
              have hn := frGo_le l a (uSize (bt l a)) 4 1 (by omega) (by have := uSize_le (bt l a); omega) (by omega)
              exact hn.2.2.2 hq
          have hgo : ∀ f k, k ≤ x.length → (frGo l a x.length f k).2 = true → frGo x 0 x.length f k = frGo l a x.length f k := by
            intro f
            induction f with
            | zero => intro k _ _; rfl
            | succ f ih =>
              intro k hk hk2
              unfold frGo at hk2 ⊢
              by_cases hlt : k < x.length
              · rw [if_pos hlt] at hk2 ⊢
                rw [if_pos hlt]
                rw [tailB_drop hd hlt] at hk2 ⊢
                by_cases ht : tailB x 0 k = true
                · rw [if_pos ht] at hk2 ⊢; rw [if_pos ht]; exact ih _ (by omega) hk2
                · rw [if_neg ht] at hk2; cases hk2
              · rw [if_neg hlt, if_neg hlt]
          have hz : uSize (bt x 0) ≠ 0 := by rw [← hb0, ← hu]; omega
          have hfl2 : frontU l a = frGo l a x.length 4 1 := by
            unfold frontU; rw [hb0, if_neg hz, hlen, hu, hb0]
          have e1 : frontU x 0 = frGo x 0 x.length 4 1 := by
            unfold frontU; rw [if_neg hz, ← hb0, ← hu, hlen]
          rw [e1, hgo 4 1 (by omega) (by rw [← hfl2]; exact hq), ← hfl2]
          exact Prod.ext rfl hq
        · exact hall x hx'
      · rw [if_neg hq] at h; omega
    · exact ⟨[], by rw [List.drop_of_length_le (by omega)]; rfl, by simp⟩
theorem badU_scal {v : List UInt8} (h : badU v = -1) : ∃ xs : List (List UInt8), v = xs.flatten ∧ ∀ x ∈ xs, Scal x := by
  obtain ⟨xs, h1, h2⟩ := badGo_scal (l := v) v.length 0 (by omega) h
  exact ⟨xs, by rw [List.drop_zero] at h1; exact h1, h2⟩
end
theorem scal_one {c : UInt8} (h : Scal [c]) : c.toNat < 128 := by
  have hf := h.2
  unfold frontU at hf
  have hb : bt [c] 0 = c.toNat := rfl
  split at hf
  · injection hf with _ e; cases e
  · rename_i hz
    have hn := frGo_le [c] 0 (uSize (bt [c] 0)) 4 1 (by omega) (by have := uSize_le (bt [c] 0); omega) (by simp)
    rw [hf] at hn
    have hu : [c].length = uSize (bt [c] 0) := hn.2.2.2 rfl
    rw [hb] at hu
    unfold uSize at hu
    split at hu
    · omega
    · (repeat' split at hu) <;> simp at hu
theorem isB_no2 {l : List UInt8} {p : Nat} {c : UInt8} {r : List UInt8} (h : l.drop p = c :: r) {d : Int} (hd : (c.toNat : Int) ≠ d) : isB l p false d = false := by
  rw [drop_isB h, beq_eq_false_iff_ne]; exact hd
theorem isB_yes2 {l : List UInt8} {p : Nat} {c : UInt8} {r : List UInt8} (h : l.drop p = c :: r) {d : Int} (hd : (c.toNat : Int) = d) : isB l p false d = true := by
  rw [drop_isB h, beq_iff_eq]; exact hd
theorem word_one {l : List UInt8} {p : Nat} {c : UInt8} {r : List UInt8} (h : l.drop p = c :: r) : wordS l [c] p false = (p + 1, false) := by
  rw [word1, isB_yes2 h rfl, if_pos rfl]
theorem word_app {l : List UInt8} : ∀ (w : List UInt8) (p : Nat) (r : List UInt8), l.drop p = w ++ r → wordS l w p false = (p + w.length, false)
  | [], p, r, _ => by simp [wordS]
  | c :: cs, p, r, h => by
    have h : l.drop p = c :: (cs ++ r) := h
    rw [word_head (isB_yes2 h rfl), word_app cs (p + 1) r (drop_one h), List.length_cons, Nat.add_assoc, Nat.add_comm 1]
end Go.Proofs.YtdngieihlcknmaaDoor
