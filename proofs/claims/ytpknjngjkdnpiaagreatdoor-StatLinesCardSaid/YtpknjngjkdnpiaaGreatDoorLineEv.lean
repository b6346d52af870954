/- The counting format: each line of a text that is read is an event of its own (no program in sight). -/
import Derived.Test.YtpknjngjkdnpiaaGreatDoorLineSh
namespace Go.Proofs.YtpknjngjkdnpiaaGreatDoor
set_option linter.unusedVariables false
set_option linter.unusedSimpArgs false
open Go.RowKit
theorem valueT_off {K : Nat} {tx : ByteArray} {pos : Nat} {x : Nat × (Int × Nat) × ByteArray} (pos' : Nat) (h : valueT K tx pos = .ok x) : valueT K tx pos' = .ok x := by
  unfold valueT at h ⊢
  split at h
  · rename_i h1
    rw [if_pos h1]
    split at h
    · rename_i h2; rw [if_pos h2]; exact h
    · cases h
  · rename_i h1
    rw [if_neg h1]
    split at h
    · cases h
    · rename_i h2
      rw [if_neg h2]
      split at h
      · cases h
      · rename_i h3
        rw [if_neg h3]
        split at h
        · cases h
        · rename_i h4
          rw [if_neg h4]
          exact h
theorem rateT_off {K : Nat} {td : Bool} {tm : ByteArray} {wh : Nat} {v x : Int × Nat} (wh' : Nat) (h : rateT K td tm wh v = .ok x) : rateT K td tm wh' v = .ok x := by
  unfold rateT at h ⊢
  split at h
  · rename_i h1; rw [if_pos h1]; exact h
  · rename_i h1
    rw [if_neg h1]
    split at h
    · cases h
    · rename_i h2
      rw [if_neg h2]
      split at h
      · cases h
      · rename_i h3
        rw [if_neg h3]
        exact h
theorem evTagsS_off : ∀ (ts ts' : List MTag) (acc L : List Lab), ts'.map tagC = ts.map tagC → evTagsS ts acc = .ok L → evTagsS ts' acc = .ok L
  | [], [], acc, L, _, h => h
  | [], t' :: ts', acc, L, e, h => by simp at e
  | t :: ts, [], acc, L, e, h => by simp at e
  | t :: ts, t' :: ts', acc, L, e, h => by
    simp only [List.map_cons, List.cons.injEq] at e
    obtain ⟨e1, e2⟩ := e
    obtain ⟨hn, hv⟩ : t'.name = t.name ∧ t'.value = t.value := by unfold tagC at e1; injection e1 with a b; exact ⟨a, b⟩
    unfold evTagsS at h ⊢
    rw [hn, hv]
    split at h
    · cases h
    · rename_i h1
      rw [if_neg h1]
      split at h
      · cases h
      · rename_i h2
        rw [if_neg h2]
        split at h
        · cases h
        · rename_i h3
          rw [if_neg h3]
          split at h
          · cases h
          · rename_i h4
            rw [if_neg h4]
            exact evTagsS_off ts ts' _ L e2 h
theorem SameC.symm {x y : MRow} (h : SameC x y) : SameC y x := ⟨h.1.symm, h.2.1.symm, h.2.2.1.symm, h.2.2.2.1.symm, h.2.2.2.2.1.symm, h.2.2.2.2.2.symm⟩
theorem evLineS_off {x y : MRow} {k : Nat} {e : MEv} (s : SameC x y) (h : evLineS x k = .ok e) : evLineS y 0 = .ok e := by
  obtain ⟨s1, s2, s3, s4, s5, s6⟩ := s
  unfold evLineS at h ⊢
  rw [← s1, ← s2, ← s4, ← s5, ← s6]
  split at h
  · cases h
  · rename_i h1
    rw [if_neg (by omega)]
    cases hv : valueT x.kind x.text x.pos with
    | error e1 => rw [hv] at h; cases h
    | ok u =>
      obtain ⟨k1, v1, m1⟩ := u
      rw [hv] at h
      rw [valueT_off y.pos hv]
      simp only at h ⊢
      cases hr : rateT x.kind x.timed x.time x.when_ v1 with
      | error e1 => rw [hr] at h; cases h
      | ok r =>
        rw [hr] at h
        rw [rateT_off y.when_ hr]
        simp only at h ⊢
        cases ht : evTagsS x.tags [] with
        | error e1 => rw [ht] at h; cases h
        | ok L =>
          rw [ht] at h
          rw [evTagsS_off x.tags y.tags [] L s3.symm ht]
          exact h
/-- What stands from a place on: lines, an event each. -/
def EvLines (l : List UInt8) : Nat → List MEv → Prop
  | a, [] => a = l.length
  | a, e :: es => a < l.length ∧ ∃ R a' k, statLineS l a = (R, a', false) ∧ evLineS R k = .ok e ∧ EvLines l a' es
theorem evGo_pre : ∀ (rs : List MRow) (acc evs : List MEv), evGo rs acc = .ok evs → ∃ es, evs = acc ++ es
  | [], acc, evs, h => by unfold evGo at h; injection h with h; exact ⟨[], by simp [h]⟩
  | x :: xs, acc, evs, h => by
    unfold evGo at h
    split at h
    · cases h
    · obtain ⟨es, he⟩ := evGo_pre xs _ _ h
      exact ⟨_, by rw [he, List.append_assoc]⟩
theorem rowsGo_pre (l : List UInt8) : ∀ f a acc, ∃ rs, (rowsGo statLineS l f a acc).1 = acc ++ rs
  | 0, a, acc => ⟨[], by simp [rowsGo]⟩
  | f + 1, a, acc => by
    unfold rowsGo
    split
    · exact ⟨[], by simp⟩
    split
    · exact ⟨[], by simp⟩
    · obtain ⟨rs, h⟩ := rowsGo_pre l f (statLineS l a).2.1 (acc ++ [(statLineS l a).1])
      exact ⟨_, by rw [h, List.append_assoc]⟩
theorem ev_lines (l : List UInt8) : ∀ (f a : Nat) (acc rs : List MRow) (ea evs : List MEv), a ≤ l.length → (rowsGo statLineS l f a acc).2.2 = false → (rowsGo statLineS l f a acc).1 = acc ++ rs → evGo rs ea = .ok evs → ∃ es, evs = ea ++ es ∧ EvLines l a es
  | 0, a, acc, rs, ea, evs, ha, h1, h2, h3 => by simp [rowsGo] at h1
  | f + 1, a, acc, rs, ea, evs, ha, h1, h2, h3 => by
    unfold rowsGo at h1 h2
    split at h1
    · rename_i hl
      rw [if_pos hl] at h2
      obtain rfl : rs = [] := by simpa using h2
      unfold evGo at h3
      injection h3 with h3
      exact ⟨[], by simp [h3], by unfold EvLines; omega⟩
    · rename_i hl
      rw [if_neg hl] at h2
      split at h1
      · simp at h1
      · rename_i hn
        rw [if_neg hn] at h2
        obtain ⟨rs', h4⟩ := rowsGo_pre l f (statLineS l a).2.1 (acc ++ [(statLineS l a).1])
        have h5 : rs = (statLineS l a).1 :: rs' := by
          rw [h4, List.append_assoc] at h2
          have := List.append_cancel_left h2
          simpa using this.symm
        subst h5
        unfold evGo at h3
        split at h3
        · cases h3
        · rename_i e he
          obtain ⟨es, k1, k2⟩ := ev_lines l f _ _ rs' _ evs (statLineS_le ha).2 h1 h4 h3
          refine ⟨e :: es, by rw [k1, List.append_assoc]; rfl, ?_⟩
          unfold EvLines
          refine ⟨by omega, (statLineS l a).1, (statLineS l a).2.1, _, ?_, he, k2⟩
          have : (statLineS l a).2.2 = false := by simpa using hn
          rw [← this]
theorem read_lines {s : ByteArray} {evs : List MEv} (h : readS s = .ok evs) : EvLines s.data.toList 0 evs := by
  unfold readS at h
  split at h
  · cases h
  split at h
  · cases h
  rename_i hn
  cases hg : evGo (statRows s.data.toList).1 [] with
  | error e => rw [hg] at h; cases h
  | ok l =>
    rw [hg] at h
    injection h with h
    subst h
    obtain ⟨es, h1, h2⟩ := ev_lines s.data.toList (s.data.toList.length + 1) 0 [] (statRows s.data.toList).1 [] l (by omega) (by simpa [statRows] using hn) (by simp [statRows]) hg
    rw [h1]; simpa using h2
theorem read_code {s : ByteArray} {x : Nat × Int} (h : readS s = .error x) : x.1 ≠ 0 := by
  unfold readS at h
  split at h
  · injection h with h; rw [← h]; simp
  split at h
  · injection h with h; rw [← h]; simp
  cases hg : evGo (statRows s.data.toList).1 [] with
  | ok l => rw [hg] at h; cases h
  | error e =>
    rw [hg] at h
    injection h with h
    rw [← h]
    simp only
    have ht : ∀ (ts : List MTag) (acc : List Lab) (e : Nat × Nat), evTagsS ts acc = .error e → e.1 ≠ 0 := by
      intro ts
      induction ts with
      | nil => intro acc e h; unfold evTagsS at h; cases h
      | cons t ts ih =>
        intro acc e h
        unfold evTagsS at h
        split at h
        · injection h with h; rw [← h]; simp
        split at h
        · injection h with h; rw [← h]; simp
        split at h
        · injection h with h; rw [← h]; simp
        split at h
        · injection h with h; rw [← h]; simp
        exact ih _ _ h
    have hl : ∀ (x : MRow) (n : Nat) (e : Nat × Nat), evLineS x n = .error e → e.1 ≠ 0 := by
      intro x n e h
      unfold evLineS at h
      split at h
      · injection h with h; rw [← h]; simp
      cases hv : valueT x.kind x.text x.pos with
      | error e1 =>
        rw [hv] at h
        injection h with h
        rw [← h]
        unfold valueT at hv
        split at hv
        · split at hv
          · cases hv
          · injection hv with hv; rw [← hv]; simp
        split at hv
        · injection hv with hv; rw [← hv]; simp
        split at hv
        · injection hv with hv; rw [← hv]; simp
        split at hv
        · injection hv with hv; rw [← hv]; simp
        cases hv
      | ok u =>
        obtain ⟨k1, v1, m1⟩ := u
        rw [hv] at h
        simp only at h
        cases hr : rateT x.kind x.timed x.time x.when_ v1 with
        | error e1 =>
          rw [hr] at h
          injection h with h
          rw [← h]
          unfold rateT at hr
          split at hr
          · cases hr
          split at hr
          · injection hr with hr; rw [← hr]; simp
          split at hr
          · injection hr with hr; rw [← hr]; simp
          cases hr
        | ok r =>
          rw [hr] at h
          simp only at h
          cases htt : evTagsS x.tags [] with
          | error e1 =>
            rw [htt] at h
            injection h with h
            rw [← h]
            exact ht _ _ _ htt
          | ok L => rw [htt] at h; cases h
    have hgo : ∀ (rs : List MRow) (acc : List MEv) (e : Nat × Nat), evGo rs acc = .error e → e.1 ≠ 0 := by
      intro rs
      induction rs with
      | nil => intro acc e h; unfold evGo at h; cases h
      | cons x xs ih =>
        intro acc e h
        unfold evGo at h
        split at h
        · rename_i e1 he
          injection h with h
          rw [← h]
          exact hl _ _ _ he
        · exact ih _ _ h
    exact hgo _ _ _ hg
theorem word10 {l : List UInt8} {a : Nat} {no : Bool} {b : Nat} (h : wordS l [10] a no = (b, false)) : b = a + 1 ∧ bt l a = 10 := by
  cases no
  · unfold wordS at h
    simp only [Bool.false_eq_true, if_false] at h
    split at h
    · rename_i hi
      unfold wordS at h
      injection h with h1 h2
      exact ⟨h1.symm, by simpa using (isB_lt hi).2.2⟩
    · injection h with h1 h2; cases h2
  · rw [word_no] at h; injection h with h1 h2; cases h2
theorem statLine_feed {l : List UInt8} {a : Nat} {R : MRow} {b : Nat} (h : statLineS l a = (R, b, false)) : 0 < b ∧ bt l (b - 1) = 10 := by
  have k : ∃ x no, wordS l [10] x no = (b, false) := by
    unfold statLineS at h
    simp only at h
    split at h
    · split at h
      · split at h
        · injection h with h1 h2; exact ⟨_, _, h2⟩
        · injection h with h1 h2; exact ⟨_, _, h2⟩
      · injection h with h1 h2; exact ⟨_, _, h2⟩
    · injection h with h1 h2; exact ⟨_, _, h2⟩
  obtain ⟨x, no, hw⟩ := k
  obtain ⟨h1, h2⟩ := word10 hw
  subst h1
  exact ⟨by omega, by simpa using h2⟩
/-- The text's end. -/
theorem ev_end {l : List UInt8} {a : Nat} {es : List MEv} (h : EvLines l a es) (ha : a ≤ l.length) (hn : ∀ k, a ≤ k → k < l.length → bt l k ≠ 10) : a = l.length ∧ es = [] := by
  cases es with
  | nil => exact ⟨h, rfl⟩
  | cons e es =>
    obtain ⟨h1, R, a', k, h2, _, _⟩ := h
    have h3 := statLine_feed h2
    have h4 := statLine_lt h1 (by rw [h2])
    have h5 := statLineS_le (l := l) ha
    rw [h2] at h4 h5
    simp only at h4 h5
    exact absurd h3.2 (hn (a' - 1) (by omega) (by omega))
/-- A line feed: the line's event by itself, and what follows it. -/
theorem ev_next {l : List UInt8} {a i : Nat} {es : List MEv} (h : EvLines l a es) (ha : a ≤ i) (hi : i < l.length) (hb : bt l i = 10) (hn : ∀ k, a ≤ k → k < i → bt l k ≠ 10) :
    ∃ e es' R, es = e :: es' ∧ EvLines l (i + 1) es' ∧ statLineS ((l.drop a).take (i + 1 - a)) 0 = (R, i + 1 - a, false) ∧ evLineS R 0 = .ok e := by
  cases es with
  | nil => have h2 : a = l.length := h; omega
  | cons e es =>
    obtain ⟨h1, R, a', k, h2, h3, h4⟩ := h
    have h5 := statLine_feed h2
    have h6 := statLine_lt h1 (by rw [h2])
    have h7 := statLineS_le (l := l) (a := a) (by omega)
    rw [h2] at h6 h7
    simp only at h6 h7
    have hlen : ((l.drop a).take (i + 1 - a)).length = i + 1 - a := by rw [List.length_take, List.length_drop]; omega
    have hC : Cu l ((l.drop a).take (i + 1 - a)) a := by
      refine ⟨by rw [hlen], by rw [hlen]; omega, by rw [hlen]; omega, ?_⟩
      rw [hlen]
      have e1 : ((l.drop a).take (i + 1 - a))[i + 1 - a - 1]? = l[i]? := by
        rw [List.getElem?_take_of_lt (by omega), List.getElem?_drop]
        congr 1
        omega
      unfold bt at hb ⊢
      rw [List.getD_eq_getElem?_getD] at hb ⊢
      rw [e1]; exact hb
    obtain ⟨R0, b, n, h8⟩ : ∃ R0 b n, statLineS ((l.drop a).take (i + 1 - a)) 0 = (R0, b, n) := ⟨_, _, _, rfl⟩
    obtain ⟨R', h9, hS⟩ := hC.line h8
    have h10 := statLineS_le (l := (l.drop a).take (i + 1 - a)) (a := 0) (by omega)
    rw [h8, hlen] at h10
    simp only at h10
    rw [h2] at h9
    obtain ⟨rfl, rfl, rfl⟩ : R = R' ∧ a' = a + b ∧ false = n := by injection h9 with e1 e2; injection e2 with e3 e4; exact ⟨e1, e3, e4⟩
    have h11 : i + 1 ≤ a + b := by
      rcases Nat.lt_or_ge (a + b) (i + 1) with h | h
      · exact absurd h5.2 (hn (a + b - 1) (by omega) (by omega))
      · exact h
    obtain rfl : b = i + 1 - a := by omega
    refine ⟨e, es, R0, rfl, ?_, h8, evLineS_off hS h3⟩
    have : a + (i + 1 - a) = i + 1 := by omega
    rw [this] at h4
    exact h4
theorem read_one {s : ByteArray} {R : MRow} {e : MEv} (hs : s.size ≤ 4000) (h : statLineS s.data.toList 0 = (R, s.size, false)) (hp : 0 < s.size) (k : evLineS R 0 = .ok e) : readS s = .ok [e] := by
  have hL : s.data.toList.length = s.size := by simp
  have h1 : statRows s.data.toList = ([R], s.size, false) := by
    unfold statRows
    obtain ⟨f, hf⟩ : ∃ f, s.data.toList.length = f + 1 := ⟨s.size - 1, by omega⟩
    rw [hf, rowsGo, if_neg (by omega), h]
    simp only [Bool.false_eq_true, if_false]
    rw [rowsGo, if_pos (by omega)]
    rfl
  unfold readS
  rw [if_neg (by omega), h1]
  simp only [Bool.false_eq_true, if_false]
  unfold evGo
  rw [show ([] : List MEv).length = 0 from rfl, k]
  rfl
theorem evTagsS_len : ∀ (ts : List MTag) (acc L : List Lab), acc.length ≤ 8 → evTagsS ts acc = .ok L → L.length ≤ 8
  | [], acc, L, ha, h => by unfold evTagsS at h; injection h with h; rw [← h]; exact ha
  | t :: ts, acc, L, ha, h => by
    unfold evTagsS at h
    split at h
    · cases h
    split at h
    · cases h
    split at h
    · cases h
    split at h
    · cases h
    exact evTagsS_len ts _ L (by rw [List.length_append]; simp; omega) h
theorem evLineS_labs {x : MRow} {n : Nat} {e : MEv} (h : evLineS x n = .ok e) : e.labs.length ≤ 8 := by
  unfold evLineS at h
  split at h
  · cases h
  cases hv : valueT x.kind x.text x.pos with
  | error e1 => rw [hv] at h; cases h
  | ok u =>
    obtain ⟨k1, v1, m1⟩ := u
    rw [hv] at h
    simp only at h
    cases hr : rateT x.kind x.timed x.time x.when_ v1 with
    | error e1 => rw [hr] at h; cases h
    | ok r =>
      rw [hr] at h
      simp only at h
      cases ht : evTagsS x.tags [] with
      | error e1 => rw [ht] at h; cases h
      | ok L =>
        rw [ht] at h
        injection h with h
        rw [← h]
        have h8 := evTagsS_len _ _ _ (by simp) ht
        simp only
        unfold sortL
        split
        · simp; omega
        · simp
theorem evGo_labs : ∀ (rs : List MRow) (acc evs : List MEv), (∀ e ∈ acc, e.labs.length ≤ 8) → evGo rs acc = .ok evs → ∀ e ∈ evs, e.labs.length ≤ 8
  | [], acc, evs, ha, h => by unfold evGo at h; injection h with h; rw [← h]; exact ha
  | x :: xs, acc, evs, ha, h => by
    unfold evGo at h
    split at h
    · cases h
    · rename_i e1 he
      refine evGo_labs xs _ evs (fun y hy => ?_) h
      rcases List.mem_append.1 hy with hy | hy
      · exact ha y hy
      · rw [List.mem_singleton.1 hy]; exact evLineS_labs he
theorem read_labs {s : ByteArray} {evs : List MEv} (h : readS s = .ok evs) : ∀ e ∈ evs, e.labs.length ≤ 8 := by
  unfold readS at h
  split at h
  · cases h
  split at h
  · cases h
  cases hg : evGo (statRows s.data.toList).1 [] with
  | error e => rw [hg] at h; cases h
  | ok l =>
    rw [hg] at h
    injection h with h
    subst h
    exact evGo_labs _ _ _ (by simp) hg
end Go.Proofs.YtpknjngjkdnpiaaGreatDoor
