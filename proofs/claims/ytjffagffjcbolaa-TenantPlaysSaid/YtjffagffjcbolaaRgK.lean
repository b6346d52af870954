/- TenantPlays: the books beside each other; what a row of steps is (no program in sight). -/
import Derived.Test.YtjffagffjcbolaaRgI
import Derived.Test.YtjffagffjcbolaaTenF
namespace Go.Proofs.Ytjffagffjcbolaa
set_option linter.unusedVariables false
set_option linter.unusedSimpArgs false
open Go.RowKit
/-- The two books tell the same. -/
structure Both (m : Bk) (R : List VTen) : Prop where
  keys : m.map (·.1) = R.map (fun x => x.name.data.toList)
  like : ∀ (i : Nat) (x : List UInt8 × VCfg) (y : VTen), m[i]? = some x → R[i]? = some y → LikeC x.2 y.cfg
theorem Both.nil : Both [] [] := ⟨rfl, fun i x y h => by simp at h⟩
section
variable {m : Bk} {R : List VTen}
theorem Both.len (h : Both m R) : m.length = R.length := by have := congrArg List.length h.keys; simpa using this
theorem Both.key (h : Both m R) {i : Nat} {x : List UInt8 × VCfg} {y : VTen} (hx : m[i]? = some x) (hy : R[i]? = some y) : x.1 = y.name.data.toList := by
  have h1 : (m.map (·.1))[i]? = some x.1 := by rw [List.getElem?_map, hx]; rfl
  have h2 : (R.map (fun x => x.name.data.toList))[i]? = some y.name.data.toList := by rw [List.getElem?_map, hy]; rfl
  rw [h.keys, h2] at h1
  injection h1 with h1
  exact h1.symm
theorem Both.has_no (h : Both m R) {s : ByteArray} (hn : ∀ x ∈ R, x.name.data.toList ≠ s.data.toList) : hasKV m s.data.toList = false ∧ lookKV m s.data.toList = none := by
  have h1 : ∀ x ∈ m, keyIs s.data.toList x = false := by
    intro x hx
    obtain ⟨i, hi, rfl⟩ := List.getElem_of_mem hx
    have hR : i < R.length := by rw [← h.len]; exact hi
    have := h.key (List.getElem?_eq_getElem hi) (List.getElem?_eq_getElem hR)
    unfold keyIs
    rw [beq_eq_false_iff_ne, this]
    exact hn _ (List.getElem_mem hR)
  refine ⟨List.any_eq_false.2 (fun x hx => by rw [h1 x hx]; simp), ?_⟩
  unfold lookKV
  rw [List.find?_eq_none.2 (fun x hx => by rw [h1 x hx]; simp)]
  rfl
theorem up_inj (hu : UpKV m) {i j : Nat} {x y : List UInt8 × VCfg} (hx : m[i]? = some x) (hy : m[j]? = some y) (e : x.1 = y.1) : i = j := by
  obtain ⟨hi, rfl⟩ := List.getElem?_eq_some_iff.1 hx
  obtain ⟨hj, rfl⟩ := List.getElem?_eq_some_iff.1 hy
  have hp := List.pairwise_iff_getElem.1 hu
  have irr : ∀ l : List UInt8, bytesBefore l l = true → False := fun l h => by
    induction l with
    | nil => simp [bytesBefore] at h
    | cons a t ih =>
      unfold bytesBefore at h
      simp only [Bool.or_eq_true, decide_eq_true_eq, Bool.and_eq_true, beq_self_eq_true, true_and] at h
      rcases h with h | h
      · exact absurd h (UInt8.lt_irrefl _)
      · exact ih h
  rcases Nat.lt_trichotomy i j with h | h | h
  · have := hp i j hi hj h; rw [e] at this; exact (irr _ this).elim
  · exact h
  · have := hp j i hj hi h; rw [e] at this; exact (irr _ this).elim
theorem Both.has_yes (h : Both m R) (hu : UpKV m) {s : ByteArray} {k : Nat} {y : VTen} (hy : R[k]? = some y) (he : y.name.data.toList = s.data.toList) : hasKV m s.data.toList = true ∧ ∃ c, lookKV m s.data.toList = some c ∧ LikeC c y.cfg := by
  obtain ⟨x, hx⟩ : ∃ x, m[k]? = some x := ⟨_, List.getElem?_eq_getElem (by rw [h.len]; exact (List.getElem?_eq_some_iff.1 hy).1)⟩
  have hk := h.key hx hy
  have hm := List.mem_of_getElem? hx
  refine ⟨List.any_eq_true.2 ⟨x, hm, by unfold keyIs; rw [hk, he]; simp⟩, x.2, ?_, h.like k x y hx hy⟩
  unfold lookKV
  cases hf : m.find? (keyIs s.data.toList) with
  | none =>
    have := List.find?_eq_none.1 hf x hm
    unfold keyIs at this
    rw [hk, he] at this
    simp at this
  | some z =>
    have hz := List.mem_of_find?_eq_some hf
    have hzk : z.1 = s.data.toList := by
      have := List.find?_some hf
      unfold keyIs at this
      exact eq_of_beq this
    obtain ⟨j, hj, rfl⟩ := List.getElem_of_mem hz
    have hjk := up_inj hu (List.getElem?_eq_getElem hj) hx (by rw [hzk, hk, he])
    subst hjk
    rw [List.getElem?_eq_getElem hj] at hx
    injection hx with hx
    rw [← hx]; rfl
theorem Both.del (h : Both m R) (hu : UpKV m) {s : ByteArray} {k : Nat} {y : VTen} (hy : R[k]? = some y) (he : y.name.data.toList = s.data.toList) : Both (delKV m s.data.toList) (R.take k ++ R.drop (k + 1)) := by
  have hkR := (List.getElem?_eq_some_iff.1 hy).1
  have hkm : k < m.length := by rw [h.len]; exact hkR
  have e1 : delKV m s.data.toList = m.take k ++ m.drop (k + 1) := by
    have hd : m.drop k = m[k] :: m.drop (k + 1) := List.drop_eq_getElem_cons hkm
    have hkk : keyIs s.data.toList m[k] = true := by
      unfold keyIs
      rw [h.key (List.getElem?_eq_getElem hkm) hy, he]; simp
    unfold delKV
    conv => lhs; rw [← List.take_append_drop k m, hd]
    rw [List.filter_append, List.filter_cons, hkk]
    simp only [Bool.not_true, Bool.false_eq_true, if_false]
    congr 1
    · rw [List.filter_eq_self]
      intro x hx
      obtain ⟨j, hj, rfl⟩ := List.getElem_of_mem hx
      rw [List.length_take] at hj
      rw [List.getElem_take]
      cases hq : keyIs s.data.toList m[j]
      · rfl
      · have e2 : (m[j]).1 = (m[k]).1 := by
          unfold keyIs at hq hkk
          rw [eq_of_beq hq, eq_of_beq hkk]
        have := up_inj hu (List.getElem?_eq_getElem (show j < m.length by omega)) (List.getElem?_eq_getElem hkm) e2
        omega
    · rw [List.filter_eq_self]
      intro x hx
      obtain ⟨j, hj, rfl⟩ := List.getElem_of_mem hx
      rw [List.length_drop] at hj
      rw [List.getElem_drop]
      cases hq : keyIs s.data.toList m[k + 1 + j]
      · rfl
      · have e2 : (m[k + 1 + j]).1 = (m[k]).1 := by
          unfold keyIs at hq hkk
          rw [eq_of_beq hq, eq_of_beq hkk]
        have := up_inj hu (List.getElem?_eq_getElem (show k + 1 + j < m.length by omega)) (List.getElem?_eq_getElem hkm) e2
        omega
  rw [e1]
  refine ⟨by rw [List.map_append, List.map_append, List.map_take, List.map_drop, List.map_take, List.map_drop, h.keys], fun i x z hx hz => ?_⟩
  by_cases hi : i < k
  · rw [List.getElem?_append_left (by rw [List.length_take]; omega), List.getElem?_take, if_pos hi] at hx hz
    exact h.like i x z hx hz
  · rw [List.getElem?_append_right (by rw [List.length_take]; omega), List.length_take, Nat.min_eq_left (by omega), List.getElem?_drop] at hx
    rw [List.getElem?_append_right (by rw [List.length_take]; omega), List.length_take, Nat.min_eq_left (by omega), List.getElem?_drop] at hz
    exact h.like _ x z hx hz
theorem before_iff : ∀ (a b : List UInt8), bytesBefore a b = true ↔ a < b
  | [], [] => by simp [bytesBefore]
  | [], y :: b => by simp [bytesBefore]
  | x :: a, [] => by simp [bytesBefore]
  | x :: a, y :: b => by
    have ih := before_iff a b
    unfold bytesBefore
    simp only [Bool.or_eq_true, decide_eq_true_eq, Bool.and_eq_true, beq_iff_eq]
    rw [List.cons_lt_cons_iff, ih]
theorem ins_at {k : List UInt8} {v : VCfg} : ∀ {m : Bk} {j : Nat}, j ≤ m.length → (∀ i x, i < j → m[i]? = some x → x.1 < k) → (∀ x, m[j]? = some x → k < x.1) → insKV k v m = m.take j ++ (k, v) :: m.drop j
  | [], 0, _, _, _ => rfl
  | [], j + 1, h, _, _ => by simp at h
  | y :: r, 0, _, _, h3 => by
    unfold insKV
    rw [if_pos ((before_iff _ _).2 (h3 y rfl))]
    rfl
  | y :: r, j + 1, h1, h2, h3 => by
    have hy := h2 0 y (by omega) rfl
    have ih := ins_at (k := k) (v := v) (m := r) (j := j) (by simpa using h1) (fun i x hi hx => h2 (i + 1) x (by omega) (by simpa using hx)) (fun x hx => h3 x (by simpa using hx))
    unfold insKV
    rw [if_neg (fun h => by have := (before_iff _ _).1 h; exact absurd (List.lt_trans hy this) (List.lt_irrefl _)), ih]
    rfl
theorem Both.put (h : Both m R) {s : ByteArray} (hn : ∀ x ∈ R, x.name.data.toList ≠ s.data.toList) {j : Nat} {c d : VCfg} {y : VTen} (hj : j ≤ R.length) (h1 : ∀ i x, i < j → R[i]? = some x → x.name.data.toList < s.data.toList) (h2 : ∀ x, R[j]? = some x → ¬ x.name.data.toList < s.data.toList) (hy : y.name = s) (hl : LikeC d y.cfg) : Both (putKV m s.data.toList d) (R.take j ++ y :: R.drop j) := by
  obtain ⟨g1, _⟩ := h.has_no hn
  have hjm : j ≤ m.length := by rw [h.len]; exact hj
  have e1 : putKV m s.data.toList d = m.take j ++ (s.data.toList, d) :: m.drop j := by
    unfold putKV
    rw [delKV_none g1]
    refine ins_at hjm (fun i x hi hx => ?_) (fun x hx => ?_)
    · obtain ⟨z, hz⟩ : ∃ z, R[i]? = some z := ⟨_, List.getElem?_eq_getElem (by omega)⟩
      rw [h.key hx hz]; exact h1 i z hi hz
    · have hlt := (List.getElem?_eq_some_iff.1 hx).1
      obtain ⟨z, hz⟩ : ∃ z, R[j]? = some z := ⟨_, List.getElem?_eq_getElem (by rw [← h.len]; exact hlt)⟩
      rw [h.key hx hz]
      rcases bs3 z.name.data.toList s.data.toList with hc | hc | hc
      · exact absurd hc (h2 z hz)
      · exact absurd hc (hn z (List.mem_of_getElem? hz))
      · exact hc
  rw [e1]
  refine ⟨by rw [List.map_append, List.map_append, List.map_cons, List.map_cons, List.map_take, List.map_drop, List.map_take, List.map_drop, h.keys, hy], fun i x z hx hz => ?_⟩
  by_cases hi : i < j
  · rw [List.getElem?_append_left (by rw [List.length_take]; omega), List.getElem?_take, if_pos hi] at hx hz
    exact h.like i x z hx hz
  · rw [List.getElem?_append_right (by rw [List.length_take]; omega), List.length_take, Nat.min_eq_left hjm] at hx
    rw [List.getElem?_append_right (by rw [List.length_take]; omega), List.length_take, Nat.min_eq_left hj] at hz
    rcases Nat.eq_zero_or_pos (i - j) with h0 | h0
    · rw [h0] at hx hz
      simp only [List.getElem?_cons_zero, Option.some.injEq] at hx hz
      subst hx; subst hz
      exact hl
    · obtain ⟨q, hq⟩ : ∃ q, i - j = q + 1 := ⟨i - j - 1, by omega⟩
      rw [hq, List.getElem?_cons_succ, List.getElem?_drop] at hx hz
      exact h.like _ x z hx hz
end
theorem LikeC.trans {a b c : VCfg} (h : LikeC a b) (k : LikeC a c) : LikeC b c := ⟨by rw [k.protos, h.protos], by rw [k.bytes, h.bytes], by rw [k.points, h.points], by rw [k.store, h.store], by rw [k.mode, h.mode], by rw [k.unit, h.unit], by rw [k.rules, h.rules]⟩
end Go.Proofs.Ytjffagffjcbolaa
