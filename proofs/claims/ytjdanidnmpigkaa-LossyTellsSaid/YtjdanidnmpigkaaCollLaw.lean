/- The plain law of Collide: the least pair of unlike names that become one (no program in sight). -/
import Derived.Test.YtjdanidnmpigkaaLossyLaw
namespace Go.Proofs.Ytjdanidnmpigkaa
open Go.RowKit
abbrev Bs := List UInt8
theorem bs_irrefl (a : Bs) : ¬ a < a := List.lt_irrefl a
theorem bs_trans {a b c : Bs} (h : a < b) (k : b < c) : a < c := List.lt_trans h k
theorem bs_tri (a b : Bs) : a < b ∨ a = b ∨ b < a := by
  by_cases h : a < b
  · exact .inl h
  · by_cases k : b < a
    · exact .inr (.inr k)
    · exact .inr (.inl (List.le_antisymm (List.not_lt.1 k) (List.not_lt.1 h)))
theorem bs_asymm {a b : Bs} (h : a < b) : ¬ b < a := fun k => bs_irrefl a (bs_trans h k)
/-- Two of the names, unlike ones that become one. -/
def Clash (p wh : Int) (S : List Bs) (x : Bs × Bs) : Prop := x.1 ∈ S ∧ x.2 ∈ S ∧ x.1 < x.2 ∧ lossB p wh x.1 = lossB p wh x.2
/-- One pair is ahead of another one. -/
def Ahead (x y : Bs × Bs) : Prop := x.1 < y.1 ∨ x.1 = y.1 ∧ x.2 < y.2
def aheadB (x y : Bs × Bs) : Bool := decide (x.1 < y.1) || (x.1 == y.1 && decide (x.2 < y.2))
theorem aheadB_iff (x y : Bs × Bs) : aheadB x y = true ↔ Ahead x y := by
  unfold aheadB Ahead; simp
theorem ahead_trans {x y z : Bs × Bs} (h : Ahead x y) (k : Ahead y z) : Ahead x z := by
  rcases h with h | ⟨e, h⟩ <;> rcases k with k | ⟨f, k⟩
  · exact .inl (bs_trans h k)
  · exact .inl (f ▸ h)
  · exact .inl (e ▸ k)
  · exact .inr ⟨e.trans f, bs_trans h k⟩
theorem ahead_tri (x y : Bs × Bs) : Ahead x y ∨ x = y ∨ Ahead y x := by
  rcases bs_tri x.1 y.1 with h | h | h
  · exact .inl (.inl h)
  · rcases bs_tri x.2 y.2 with k | k | k
    · exact .inl (.inr ⟨h, k⟩)
    · exact .inr (.inl (Prod.ext h k))
    · exact .inr (.inr (.inr ⟨h.symm, k⟩))
  · exact .inr (.inr (.inl h))
theorem ahead_irrefl (x : Bs × Bs) : ¬ Ahead x x := by
  rintro (h | ⟨_, h⟩) <;> exact bs_irrefl _ h
/-- The least of what holds; none: nothing holds. -/
def IsLeast (C : Bs × Bs → Prop) : Option (Bs × Bs) → Prop
  | none => ∀ x, ¬ C x
  | some x => C x ∧ ∀ y, C y → ¬ Ahead y x
theorem least_unique {C : Bs × Bs → Prop} {r s : Option (Bs × Bs)} (h : IsLeast C r) (k : IsLeast C s) : r = s := by
  cases r with
  | none => cases s with
    | none => rfl
    | some y => exact absurd k.1 (h y)
  | some x => cases s with
    | none => exact absurd h.1 (k x)
    | some y =>
      rcases ahead_tri x y with q | q | q
      · exact absurd q (k.2 x h.1)
      · rw [q]
      · exact absurd q (h.2 y k.1)
theorem least_congr {C D : Bs × Bs → Prop} (h : ∀ x, C x ↔ D x) {r : Option (Bs × Bs)} (k : IsLeast C r) : IsLeast D r := by
  cases r with
  | none => exact fun x hx => k x ((h x).2 hx)
  | some x => exact ⟨(h x).1 k.1, fun y hy => k.2 y ((h y).2 hy)⟩
/-- One candidate more. -/
def best (r : Option (Bs × Bs)) (x : Bs × Bs) : Option (Bs × Bs) := match r with
  | none => some x
  | some y => if aheadB x y = true then some x else some y
theorem best_least {C : Bs × Bs → Prop} {r : Option (Bs × Bs)} (h : IsLeast C r) (x : Bs × Bs) : IsLeast (fun y => C y ∨ y = x) (best r x) := by
  cases r with
  | none => exact ⟨.inr rfl, fun y hy => by
      rcases hy with hy | rfl
      · exact absurd hy (h y)
      · exact ahead_irrefl y⟩
  | some z =>
    unfold best
    simp only
    split
    · rename_i ha
      have ha := (aheadB_iff x z).1 ha
      refine ⟨.inr rfl, fun y hy => ?_⟩
      rcases hy with hy | rfl
      · exact fun q => h.2 y hy (ahead_trans q ha)
      · exact ahead_irrefl y
    · rename_i ha
      have ha : ¬ Ahead x z := fun q => ha ((aheadB_iff x z).2 q)
      refine ⟨.inl h.1, fun y hy => ?_⟩
      rcases hy with hy | rfl
      · exact h.2 y hy
      · exact ha
/-- In whatever order and however often the names come, the clashes are the same. -/
theorem clash_mem {p wh : Int} {S T : List Bs} (h : ∀ x, x ∈ S ↔ x ∈ T) (x : Bs × Bs) : Clash p wh S x ↔ Clash p wh T x := by
  unfold Clash; rw [h, h]
/-! ### sorted names, each once -/
theorem sort_mem (l : List Bs) (x : Bs) : x ∈ l.mergeSort (fun a b => decide (a ≤ b)) ↔ x ∈ l := List.mem_mergeSort
theorem sort_sorted (l : List Bs) : (l.mergeSort (fun a b => decide (a ≤ b))).Pairwise (fun a b => a ≤ b) := by
  have h := List.pairwise_mergeSort (le := fun a b : Bs => decide (a ≤ b)) (fun a b c h k => by
    simp only [decide_eq_true_eq] at h k ⊢; exact List.le_trans h k) (fun a b => by
    simp only [Bool.or_eq_true, decide_eq_true_eq]; exact List.le_total a b) l
  exact h.imp fun q => by simpa using q
end Go.Proofs.Ytjdanidnmpigkaa
