/- The plain law of Collide, on: sorted names, each once; the loop's first pair is the least (no program in sight). -/
import Derived.Test.YtjdanidnmpigkaaCollLaw
import Derived.Lib.SlicesCompact
namespace Go.Proofs.Ytjdanidnmpigkaa
open Go.RowKit
theorem bang_at (zs : List Bs) (j : Nat) (h : j < zs.length) : zs.toArray[j]! = zs[j] := by simp [h]
theorem comp_upto (zs : List Bs) (hs : zs.Pairwise (fun a b => a ≤ b)) : ∀ m, m ≤ zs.length → (∀ x, x ∈ Lib.compactUpTo zs.toArray m ↔ x ∈ zs.take m) ∧ (Lib.compactUpTo zs.toArray m).Pairwise (fun a b => a < b)
  | 0, _ => by simp [Lib.compactUpTo]
  | m + 1, hm => by
    obtain ⟨h1, h2⟩ := comp_upto zs hs m (by omega)
    have hm' : m < zs.length := by omega
    rw [Lib.compactUpTo_succ, bang_at zs m hm', List.take_succ_eq_append_getElem hm']
    have hle : ∀ x, x ∈ zs.take m → x ≤ zs[m] := by
      intro x hx
      obtain ⟨j, hj, rfl⟩ := List.getElem_of_mem hx
      simp only [List.length_take] at hj
      rw [List.getElem_take]
      exact List.pairwise_iff_getElem.1 hs j m (by omega) hm' (by omega)
    by_cases hk : Lib.keeps zs.toArray m = true
    · rw [if_pos hk]
      refine ⟨fun x => by rw [List.mem_append, List.mem_append, h1], ?_⟩
      rw [List.pairwise_append]
      refine ⟨h2, by simp, fun x hx y hy => ?_⟩
      simp only [List.mem_singleton] at hy
      subst hy
      have hx' := (h1 x).1 hx
      by_cases h0 : m = 0
      · subst h0; simp at hx'
      · have hne : zs[m] ≠ zs[m - 1]'(by omega) := by
          intro e
          have := Lib.keeps_neg (d := zs.toArray) (m := m) (by omega) (by rw [bang_at zs m hm', bang_at zs (m - 1) (by omega)]; exact e)
          rw [this] at hk; cases hk
        have hlt : zs[m - 1]'(by omega) < zs[m] := by
          rcases bs_tri (zs[m - 1]'(by omega)) zs[m] with q | q | q
          · exact q
          · exact absurd q.symm hne
          · exact absurd q (List.not_lt.2 (List.pairwise_iff_getElem.1 hs (m - 1) m (by omega) hm' (by omega)))
        obtain ⟨j, hj, rfl⟩ := List.getElem_of_mem hx'
        simp only [List.length_take] at hj
        rw [List.getElem_take]
        by_cases e : j = m - 1
        · subst e; exact hlt
        · exact List.lt_of_le_of_lt (List.pairwise_iff_getElem.1 hs j (m - 1) (by omega) (by omega) (by omega)) hlt
    · rw [if_neg hk]
      simp only [List.append_nil]
      refine ⟨fun x => ?_, h2⟩
      rw [h1]
      simp only [List.mem_append, List.mem_singleton]
      refine ⟨.inl, fun h => h.elim id fun e => ?_⟩
      subst e
      have h0 : m ≠ 0 := by
        rintro rfl
        exact hk (Lib.keeps_lt_one _ 0 (by omega))
      have he : zs[m] = zs[m - 1]'(by omega) := by
        by_cases q : zs[m] = zs[m - 1]'(by omega)
        · exact q
        · exact absurd (Lib.keeps_pos (by rw [bang_at zs m hm', bang_at zs (m - 1) (by omega)]; exact q)) hk
      rw [he]
      exact List.mem_take_iff_getElem.2 ⟨m - 1, by omega, rfl⟩
theorem comp_spec (zs : List Bs) (hs : zs.Pairwise (fun a b => a ≤ b)) : (∀ x, x ∈ Lib.compact zs ↔ x ∈ zs) ∧ (Lib.compact zs).Pairwise (fun a b => a < b) := by
  have h := comp_upto zs hs zs.length (Nat.le_refl _)
  rw [List.take_length] at h
  exact h
/-- The names as Collide goes through them. -/
def namesOf (l : List Bs) : List Bs := Lib.compact (l.mergeSort fun a b => decide (a ≤ b))
theorem names_mem (l : List Bs) (x : Bs) : x ∈ namesOf l ↔ x ∈ l := ((comp_spec _ (sort_sorted l)).1 x).trans (sort_mem l x)
theorem names_up (l : List Bs) : (namesOf l).Pairwise (fun a b => a < b) := (comp_spec _ (sort_sorted l)).2
/-! ### the loop -/
/-- The first of the first n names that becomes y. -/
def firstOf (p wh : Int) (u : List Bs) (y : Bs) : Nat → Option Nat
  | 0 => none
  | n + 1 => match firstOf p wh u y n with
    | some k => some k
    | none => if lossB p wh (u.getD n []) = y then some n else none
theorem firstOf_some (p wh : Int) (u : List Bs) (y : Bs) : ∀ n k, firstOf p wh u y n = some k → k < n ∧ lossB p wh (u.getD k []) = y ∧ ∀ j, j < k → lossB p wh (u.getD j []) ≠ y
  | 0, k, h => by cases h
  | n + 1, k, h => by
    have none_of : firstOf p wh u y n = none → ∀ j, j < n → lossB p wh (u.getD j []) ≠ y := by
      intro h0
      clear h
      induction n with
      | zero => intro j hj; omega
      | succ n ih =>
        rw [firstOf] at h0
        cases hq : firstOf p wh u y n with
        | some k => rw [hq] at h0; cases h0
        | none =>
          rw [hq] at h0
          simp only at h0
          split at h0
          · cases h0
          · rename_i hne
            intro j hj
            by_cases e : j = n
            · subst e; exact hne
            · exact ih hq j (by omega)
    rw [firstOf] at h
    cases hq : firstOf p wh u y n with
    | some k' =>
      rw [hq] at h
      injection h with h; subst h
      obtain ⟨a, b, c⟩ := firstOf_some p wh u y n k' hq
      exact ⟨by omega, b, c⟩
    | none =>
      rw [hq] at h
      simp only at h
      split at h
      · rename_i he
        injection h with h; subst h
        exact ⟨by omega, he, none_of hq⟩
      · cases h
theorem firstOf_none (p wh : Int) (u : List Bs) (y : Bs) : ∀ n, firstOf p wh u y n = none → ∀ j, j < n → lossB p wh (u.getD j []) ≠ y
  | 0, _, j, hj => by omega
  | n + 1, h, j, hj => by
    rw [firstOf] at h
    cases hq : firstOf p wh u y n with
    | some k => rw [hq] at h; cases h
    | none =>
      rw [hq] at h
      simp only at h
      split at h
      · cases h
      · rename_i hne
        by_cases e : j = n
        · subst e; exact hne
        · exact firstOf_none p wh u y n hq j (by omega)
/-- The first pair among the first n names, as the loop keeps it. -/
def collTo (p wh : Int) (u : List Bs) : Nat → Option (Bs × Bs)
  | 0 => none
  | n + 1 => match firstOf p wh u (lossB p wh (u.getD n [])) n with
    | none => collTo p wh u n
    | some k => match collTo p wh u n with
      | none => some (u.getD k [], u.getD n [])
      | some x => if u.getD k [] < x.1 then some (u.getD k [], u.getD n []) else some x
theorem take_mem (u : List Bs) (n : Nat) (hn : n ≤ u.length) (x : Bs) : x ∈ u.take n ↔ ∃ j, j < n ∧ u.getD j [] = x := by
  rw [List.mem_take_iff_getElem]
  constructor
  · rintro ⟨j, hj, rfl⟩
    exact ⟨j, by omega, by rw [List.getD_eq_getElem?_getD, List.getElem?_eq_getElem (by omega)]; rfl⟩
  · rintro ⟨j, hj, rfl⟩
    exact ⟨j, by omega, by rw [List.getD_eq_getElem?_getD, List.getElem?_eq_getElem (by omega)]; rfl⟩
theorem up_at (u : List Bs) (hu : u.Pairwise (fun a b => a < b)) (i j : Nat) (h : i < j) (hj : j < u.length) : u.getD i [] < u.getD j [] := by
  have := List.pairwise_iff_getElem.1 hu i j (by omega) hj h
  rw [List.getD_eq_getElem?_getD, List.getD_eq_getElem?_getD, List.getElem?_eq_getElem (by omega), List.getElem?_eq_getElem hj]
  exact this
theorem coll_least (p wh : Int) (u : List Bs) (hu : u.Pairwise (fun a b => a < b)) : ∀ n, n ≤ u.length → IsLeast (Clash p wh (u.take n)) (collTo p wh u n)
  | 0, _ => by
    intro x hx
    obtain ⟨h, _⟩ := hx
    simp at h
  | n + 1, hn => by
    have ih := coll_least p wh u hu n (by omega)
    have hnew : ∀ x, Clash p wh (u.take (n + 1)) x ↔ Clash p wh (u.take n) x ∨ (x.2 = u.getD n [] ∧ x.1 ∈ u.take n ∧ lossB p wh x.1 = lossB p wh x.2) := by
      intro x
      have hm : ∀ y, y ∈ u.take (n + 1) ↔ y ∈ u.take n ∨ y = u.getD n [] := by
        intro y
        rw [take_mem u (n + 1) hn, take_mem u n (by omega)]
        constructor
        · rintro ⟨j, hj, rfl⟩
          by_cases e : j = n
          · subst e; exact .inr rfl
          · exact .inl ⟨j, by omega, rfl⟩
        · rintro (⟨j, hj, rfl⟩ | rfl)
          · exact ⟨j, by omega, rfl⟩
          · exact ⟨n, by omega, rfl⟩
      have hbig : ∀ y, y ∈ u.take n → y < u.getD n [] := by
        intro y hy
        obtain ⟨j, hj, rfl⟩ := (take_mem u n (by omega) y).1 hy
        exact up_at u hu j n hj (by omega)
      unfold Clash
      rw [hm, hm]
      constructor
      · rintro ⟨h1, h2, h3, h4⟩
        rcases h2 with h2 | h2
        · rcases h1 with h1 | h1
          · exact .inl ⟨h1, h2, h3, h4⟩
          · exact absurd (h1 ▸ h3) (bs_asymm (hbig _ h2))
        · rcases h1 with h1 | h1
          · exact .inr ⟨h2, h1, h4⟩
          · rw [h1, h2] at h3; exact absurd h3 (bs_irrefl _)
      · rintro (⟨h1, h2, h3, h4⟩ | ⟨h1, h2, h3⟩)
        · exact ⟨.inl h1, .inl h2, h3, h4⟩
        · exact ⟨.inl h2, .inr h1, by rw [h1]; exact hbig _ h2, h3⟩
    rw [collTo]
    cases hf : firstOf p wh u (lossB p wh (u.getD n [])) n with
    | none =>
      simp only
      refine least_congr (fun x => ?_) ih
      rw [hnew]
      refine ⟨.inl, fun h => h.elim id fun ⟨h1, h2, h3⟩ => ?_⟩
      obtain ⟨j, hj, e⟩ := (take_mem u n (by omega) x.1).1 h2
      exact absurd (by rw [e, h3, h1]) (firstOf_none p wh u _ n hf j hj)
    | some k =>
      obtain ⟨hk, hke, hkf⟩ := firstOf_some p wh u _ n k hf
      simp only
      have hb := best_least ih (u.getD k [], u.getD n [])
      have hsame : best (collTo p wh u n) (u.getD k [], u.getD n []) = (match collTo p wh u n with
          | none => some (u.getD k [], u.getD n [])
          | some x => if u.getD k [] < x.1 then some (u.getD k [], u.getD n []) else some x) := by
        unfold best
        cases hc : collTo p wh u n with
        | none => rfl
        | some z =>
          rw [hc] at ih
          simp only
          have hz2 : ¬ u.getD n [] < z.2 := by
            obtain ⟨j, hj, e⟩ := (take_mem u n (by omega) z.2).1 ih.1.2.1
            rw [← e]
            exact bs_asymm (up_at u hu j n hj (by omega))
          have : aheadB (u.getD k [], u.getD n []) z = decide (u.getD k [] < z.1) := by
            show (decide (u.getD k [] < z.1) || (u.getD k [] == z.1 && decide (u.getD n [] < z.2))) = _
            rw [decide_eq_false hz2, Bool.and_false, Bool.or_false]
          rw [this]
          simp
      rw [← hsame]
      cases hr : best (collTo p wh u n) (u.getD k [], u.getD n []) with
      | none =>
        unfold best at hr
        split at hr
        · cases hr
        · split at hr <;> cases hr
      | some r =>
        rw [hr] at hb
        refine ⟨(hnew r).2 ?_, fun y hy => ?_⟩
        · rcases hb.1 with h | h
          · exact .inl h
          · subst h
            exact .inr ⟨rfl, (take_mem u n (by omega) _).2 ⟨k, hk, rfl⟩, hke⟩
        · rcases (hnew y).1 hy with h | ⟨h1, h2, h3⟩
          · exact hb.2 y (.inl h)
          · intro q
            obtain ⟨j, hj, e⟩ := (take_mem u n (by omega) y.1).1 h2
            have hjk : k ≤ j := by
              rcases Nat.lt_or_ge j k with g | g
              · exact absurd (by rw [e, h3, h1]) (hkf j g)
              · exact g
            have hno := hb.2 _ (.inr rfl)
            by_cases ejk : j = k
            · subst ejk
              have : y = (u.getD j [], u.getD n []) := Prod.ext e.symm h1
              rw [this] at q
              exact hno q
            · refine hno (ahead_trans (y := y) (.inl ?_) q)
              rw [← e]
              exact up_at u hu k j (by omega) (by omega)
/-- What Collide tells: the least pair. -/
def collide (p wh : Int) (l : List Bs) : Option (Bs × Bs) := collTo p wh (namesOf l) (namesOf l).length
theorem collide_least (p wh : Int) (l : List Bs) : IsLeast (Clash p wh l) (collide p wh l) := by
  have h := coll_least p wh (namesOf l) (names_up l) _ (Nat.le_refl _)
  rw [List.take_length] at h
  exact least_congr (clash_mem (names_mem l)) h
theorem collide_same (p wh : Int) (l r : List Bs) (h : ∀ x, x ∈ l ↔ x ∈ r) : collide p wh l = collide p wh r :=
  least_unique (collide_least p wh l) (least_congr (clash_mem fun x => (h x).symm) (collide_least p wh r))
end Go.Proofs.Ytjdanidnmpigkaa
