/- A path's nodes: strings.Split's pieces; joined again (no program in sight). -/
import Derived.Test.YtodgfapgmmjpcaaGreatDoorTplDef
import Derived.Lib.Split
import Derived.Lib.Join
namespace Go.Proofs.YtodgfapgmmjpcaaGreatDoor
set_option linter.unusedVariables false
set_option linter.unusedSimpArgs false
open Go.RowKit
theorem dotPre (c : UInt8) (cs : List UInt8) : ([46] : List UInt8).isPrefixOf (c :: cs) = decide (c = 46) := by
  apply bcl
  simp [List.isPrefixOf]
  exact ⟨fun h => h.symm, fun h => h.symm⟩
theorem nodesL_cons (c : UInt8) (cs : List UInt8) : nodesL (c :: cs) = if c = 46 then [] :: nodesL cs else match nodesL cs with
    | [] => [[c]]
    | x :: xs => (c :: x) :: xs := rfl
theorem nodes_miss : ∀ s : List UInt8, Lib.index s [46] = -1 → nodesL s = [s]
  | [], _ => rfl
  | c :: cs, h => by
    unfold Lib.index at h
    rw [dotPre] at h
    by_cases hc : c = 46
    · rw [if_pos (by simpa using hc)] at h; omega
    · rw [if_neg (by simpa using hc)] at h
      have := Lib.index_ge cs [46]
      have h2 : Lib.index cs [46] = -1 := by
        split at h
        · rename_i k; simpa using k
        · omega
      rw [nodesL_cons, if_neg hc, nodes_miss cs h2]
theorem nodes_hit : ∀ (s : List UInt8) (i : Nat), Lib.index s [46] = (i : Int) → nodesL s = s.take i :: nodesL (s.drop (i + 1))
  | [], i, h => by
    unfold Lib.index at h
    simp at h
  | c :: cs, i, h => by
    unfold Lib.index at h
    rw [dotPre] at h
    by_cases hc : c = 46
    · rw [if_pos (by simpa using hc)] at h
      obtain rfl : i = 0 := by omega
      rw [nodesL_cons, if_pos hc]; simp
    · rw [if_neg (by simpa using hc)] at h
      split at h
      · omega
      · obtain ⟨j, rfl⟩ : ∃ j, i = j + 1 := ⟨i - 1, by
          have := Lib.index_ge cs [46]
          rename_i k
          have : Lib.index cs [46] ≠ -1 := by simpa using k
          omega⟩
        have ih := nodes_hit cs j (by omega)
        rw [nodesL_cons, if_neg hc, ih]
        simp
theorem split_nodes : ∀ (n : Nat) (s : List UInt8), s.length ≤ n → Lib.splitK [46] 0 (Lib.count s [46]) s = nodesL s := by
  intro n
  induction n with
  | zero =>
    intro s hs
    obtain rfl : s = [] := List.length_eq_zero_iff.1 (by omega)
    rfl
  | succ n ih =>
    intro s hs
    rcases Lib.index_spec s [46] with ⟨h, _⟩ | ⟨i, h, hi, _, _⟩
    · rw [Lib.count_miss h, nodes_miss s h]; rfl
    · have hr := Lib.index_room s [46] (by omega)
      simp only [List.length_singleton] at hr
      rw [Lib.count_hit (by simp) h, nodes_hit s i h, Nat.add_comm]
      unfold Lib.splitK
      rw [if_neg (by rw [h]; simp), h]
      simp only [List.length_singleton, Nat.add_zero, Int.toNat_natCast]
      rw [ih _ (by rw [List.length_drop]; omega)]
theorem mkS_data (s : ByteArray) : mkS s.data.toList = s := by cases s; rfl
theorem splitB_nodes (p : ByteArray) : Lib.splitB ⟨#[46]⟩ 0 (Lib.countB p ⟨#[46]⟩) p = nodesT p := by
  have h := Lib.splitB_data ⟨#[46]⟩ 0 (Lib.countB p ⟨#[46]⟩) p
  unfold nodesT
  rw [← split_nodes _ p.data.toList (Nat.le_refl _)]
  have h2 : Lib.countB p ⟨#[46]⟩ = Lib.count p.data.toList [46] := rfl
  rw [h2] at h ⊢
  show _ = List.map mkS (Lib.splitK (⟨#[46]⟩ : ByteArray).data.toList 0 _ _)
  rw [← h, List.map_map]
  have : (mkS ∘ fun x : ByteArray => x.data.toList) = id := by funext x; exact mkS_data x
  rw [this, List.map_id]
theorem nodesL_len : ∀ l : List UInt8, 1 ≤ (nodesL l).length ∧ (nodesL l).length ≤ l.length + 1
  | [] => ⟨Nat.le_refl _, Nat.le_refl _⟩
  | c :: cs => by
    have ih := nodesL_len cs
    rw [nodesL_cons]
    split
    · simp only [List.length_cons]; omega
    · split
      · simp
      · rename_i h; rw [h] at ih; simp only [List.length_cons] at ih ⊢; omega
theorem nodesT_len (p : ByteArray) : 1 ≤ (nodesT p).length ∧ (nodesT p).length ≤ p.size + 1 := by
  have := nodesL_len p.data.toList
  unfold nodesT
  rw [List.length_map]
  simpa using this
theorem nodesL_sz : ∀ (l x : List UInt8), x ∈ nodesL l → x.length ≤ l.length
  | [], x, h => by simp [nodesL] at h; subst h; simp
  | c :: cs, x, h => by
    rw [nodesL_cons] at h
    split at h
    · rcases List.mem_cons.1 h with rfl | h
      · simp
      · have := nodesL_sz cs x h; simp; omega
    · split at h
      · simp at h; subst h; simp
      · rename_i y ys hy
        rcases List.mem_cons.1 h with rfl | h
        · have := nodesL_sz cs y (by rw [hy]; simp); simp; omega
        · have := nodesL_sz cs x (by rw [hy]; simp [h]); simp; omega
theorem nodesT_sz {p x : ByteArray} (h : x ∈ nodesT p) : x.size ≤ p.size := by
  unfold nodesT at h
  obtain ⟨y, hy, rfl⟩ := List.mem_map.1 h
  have h2 := nodesL_sz _ y hy
  have e : (mkS y).size = y.length := rfl
  have e2 : p.data.toList.length = p.size := by simp
  omega
/-! ### joined -/
theorem dotTail (y : List UInt8) (r : List (List UInt8)) : Lib.joinTail [46] (y :: r) = 46 :: Lib.join (y :: r) [46] := by
  rw [Lib.join_cons]
  simp [Lib.joinTail]
theorem join_nodes : ∀ s : List UInt8, Lib.join (nodesL s) [46] = s
  | [] => rfl
  | c :: cs => by
    have ih := join_nodes cs
    have hl := nodesL_len cs
    rw [nodesL_cons]
    cases h : nodesL cs with
    | nil => rw [h] at hl; simp at hl
    | cons x r =>
      rw [h] at ih
      split
      · rename_i hc
        rw [Lib.join_cons, dotTail, ih, hc]; rfl
      · simp only
        rw [Lib.join_cons] at ih ⊢
        rw [List.cons_append, ih]
theorem nodes_plain : ∀ a : List UInt8, (46 : UInt8) ∉ a → nodesL a = [a]
  | [], _ => rfl
  | c :: cs, h => by
    rw [nodesL_cons, if_neg (fun e => h (by rw [e]; simp)), nodes_plain cs (fun k => h (List.mem_cons_of_mem _ k))]
theorem nodes_app : ∀ a b : List UInt8, (46 : UInt8) ∉ a → nodesL (a ++ 46 :: b) = a :: nodesL b
  | [], b, _ => by
    show nodesL (46 :: b) = _
    rw [nodesL_cons, if_pos rfl]
  | c :: cs, b, h => by
    rw [List.cons_append]
    rw [nodesL_cons, if_neg (fun e => h (by rw [e]; simp)), nodes_app cs b (fun k => h (List.mem_cons_of_mem _ k))]
theorem nodes_join : ∀ xs : List (List UInt8), xs ≠ [] → (∀ x ∈ xs, (46 : UInt8) ∉ x) → nodesL (Lib.join xs [46]) = xs
  | [], h, _ => absurd rfl h
  | [x], _, h => by
    rw [Lib.join_one]
    exact nodes_plain x (h x (by simp))
  | x :: y :: r, _, h => by
    rw [Lib.join_cons, dotTail, nodes_app x _ (h x (by simp)), nodes_join (y :: r) (by simp) (fun z hz => h z (List.mem_cons_of_mem _ hz))]
theorem join_le (M : Nat) : ∀ xs : List (List UInt8), (∀ x ∈ xs, x.length ≤ M) → (Lib.join xs [46]).length ≤ xs.length * (M + 1)
  | [], _ => by simp [Lib.join_nil]
  | [x], h => by
    rw [Lib.join_one]
    have := h x (by simp)
    simp; omega
  | x :: y :: r, h => by
    have ih := join_le M (y :: r) (fun z hz => h z (List.mem_cons_of_mem _ hz))
    have hx := h x (by simp)
    rw [Lib.join_cons, dotTail, List.length_append, List.length_cons]
    have e : (x :: y :: r).length = (y :: r).length + 1 := rfl
    rw [e, Nat.add_mul]
    omega
theorem joinT_le (M : Nat) (xs : List ByteArray) (h : ∀ x ∈ xs, x.size ≤ M) : (joinT xs).size ≤ xs.length * (M + 1) := by
  have := join_le M (xs.map (·.data.toList)) (fun x hx => by
    obtain ⟨y, hy, rfl⟩ := List.mem_map.1 hx
    have := h y hy
    simpa using this)
  rw [List.length_map] at this
  exact this
end Go.Proofs.YtodgfapgmmjpcaaGreatDoor
