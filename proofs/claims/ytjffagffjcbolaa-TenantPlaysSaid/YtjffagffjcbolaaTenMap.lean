/- A map of strings as a sorted list of keys and values (any program). -/
import Derived.Test.YtjffagffjcbolaaCore
import Derived.Maps.OwnSet
import Derived.WideShapes
namespace Go.Proofs.Ytjffagffjcbolaa
set_option linter.unusedVariables false
set_option linter.unusedSimpArgs false
open Go.RowKit
abbrev KV (α : Type) := List (List UInt8 × α)
section
variable {α : Type}
def heldE : Value → Option (DataW Value × List MemPlace) := fun v => some (.held v, [])
def dEnt (f : α → Value) (x : List UInt8 × α) : Lit × DataW Value := (Lit.string x.1, DataW.held (f x.2))
def dKV (f : α → Value) (m : KV α) : DataW Value := .map (m.map (dEnt f))
def keyIs (k : List UInt8) (x : List UInt8 × α) : Bool := x.1 == k
def lookKV (m : KV α) (k : List UInt8) : Option α := (m.find? (keyIs k)).map (·.2)
def hasKV (m : KV α) (k : List UInt8) : Bool := m.any (keyIs k)
def insKV (k : List UInt8) (v : α) : KV α → KV α
  | [] => [(k, v)]
  | y :: r => if bytesBefore k y.1 then (k, v) :: y :: r else y :: insKV k v r
def delKV (m : KV α) (k : List UInt8) : KV α := m.filter fun x => !(keyIs k x)
def putKV (m : KV α) (k : List UInt8) (v : α) : KV α := insKV k v (delKV m k)
theorem sameKey_dEnt (f : α → Value) (k : List UInt8) (x : List UInt8 × α) : (dEnt f x).1.sameKey (.string k) = keyIs k x := rfl
theorem has_dKV (f : α → Value) (m : KV α) (k : List UInt8) : Maps.has (dKV f m) (.string k) = hasKV m k := by
  unfold dKV hasKV
  rw [Maps.has_eq, List.any_map]
  rfl
theorem at_dKV (f : α → Value) (m : KV α) (k : List UInt8) (z : Value) : (dKV f m).atKey (.string k) (.held z) = .held (((lookKV m k).map f).getD z) := by
  unfold dKV lookKV DataW.atKey
  simp only [List.find?_map]
  have e : ((fun p : Lit × DataW Value => p.1.sameKey (.string k)) ∘ dEnt f) = keyIs k := rfl
  rw [e]
  cases m.find? (keyIs k) <;> rfl
theorem size_dKV (f : α → Value) (m : KV α) : Maps.size (dKV f m) = m.length := by unfold dKV; simp [Maps.size]
theorem del_dKV (f : α → Value) (m : KV α) (k : List UInt8) : (dKV f m).del (.string k) = dKV f (delKV m k) := by
  unfold dKV delKV DataW.del
  simp only [List.filter_map]
  rfl
theorem ins_dKV (f : α → Value) (k : List UInt8) (v : α) : ∀ m : KV α, DataW.insert (Lit.string k, DataW.held (f v)) (m.map (dEnt f)) = (insKV k v m).map (dEnt f)
  | [] => rfl
  | y :: r => by
    have ih := ins_dKV f k v r
    show (if bytesBefore k y.1 = true then _ else _) = _
    unfold insKV
    by_cases h : bytesBefore k y.1 = true
    · rw [if_pos h, if_pos h]; rfl
    · rw [if_neg h, if_neg h, ih]; rfl
theorem put_dKV (f : α → Value) (m : KV α) (k : List UInt8) (v : α) : (dKV f m).put (.string k) (.held (f v)) = dKV f (putKV m k v) := by
  have h := del_dKV f m k
  unfold dKV at h ⊢
  unfold DataW.del at h
  unfold DataW.put putKV
  simp only at h ⊢
  injection h with h
  rw [h, ins_dKV]
/-- Do the keys rise? -/
def UpKV (m : KV α) : Prop := m.Pairwise fun x y => bytesBefore x.1 y.1 = true
theorem UpKV.del {m : KV α} (h : UpKV m) (k : List UInt8) : UpKV (delKV m k) := List.Pairwise.sublist List.filter_sublist h
theorem mem_insKV {k : List UInt8} {v : α} {x : List UInt8 × α} : ∀ {m : KV α}, x ∈ insKV k v m ↔ x = (k, v) ∨ x ∈ m
  | [] => by simp [insKV]
  | y :: r => by
    unfold insKV
    split
    · simp
    · rw [List.mem_cons, mem_insKV (m := r), List.mem_cons]; constructor
      · rintro (h | h | h)
        · exact .inr (.inl h)
        · exact .inl h
        · exact .inr (.inr h)
      · rintro (h | h | h)
        · exact .inr (.inl h)
        · exact .inl h
        · exact .inr (.inr h)
theorem UpKV.ins {k : List UInt8} {v : α} : ∀ {m : KV α}, UpKV m → (∀ x ∈ m, x.1 ≠ k) → UpKV (insKV k v m)
  | [], _, _ => by simp [insKV, UpKV]
  | y :: r, h, hne => by
    unfold UpKV at h
    rw [List.pairwise_cons] at h
    unfold insKV
    split
    · rename_i hk
      refine List.pairwise_cons.2 ⟨fun z hz => ?_, List.pairwise_cons.2 h⟩
      rcases List.mem_cons.1 hz with rfl | hz
      · exact hk
      · exact WideShapes.bytes_trans _ _ _ hk (h.1 z hz)
    · rename_i hk
      refine List.pairwise_cons.2 ⟨fun z hz => ?_, UpKV.ins h.2 (fun x hx => hne x (List.mem_cons_of_mem _ hx))⟩
      rcases mem_insKV.1 hz with rfl | hz
      · rcases WideAt.bytes_total y.1 k (hne y (by simp)) with h1 | h1
        · exact h1
        · exact absurd h1 hk
      · exact h.1 z hz
theorem UpKV.put {m : KV α} (h : UpKV m) (k : List UInt8) (v : α) : UpKV (putKV m k v) := UpKV.ins (h.del k) (fun x hx e => by
  have := (List.mem_filter.1 hx).2
  unfold keyIs at this
  simp [e] at this)
theorem len_insKV (k : List UInt8) (v : α) : ∀ m : KV α, (insKV k v m).length = m.length + 1
  | [] => rfl
  | y :: r => by
    unfold insKV
    split
    · rfl
    · rw [List.length_cons, len_insKV k v r]; rfl
theorem delKV_none {m : KV α} {k : List UInt8} (h : hasKV m k = false) : delKV m k = m := by
  unfold delKV
  rw [List.filter_eq_self]
  intro x hx
  have := List.any_eq_false.1 h x hx
  simpa using this
end
theorem bytes_lt : ∀ (a b : List UInt8), bytesBefore a b = true → a ≤ b
  | [], _, _ => by simp
  | x :: r, [], h => by simp [bytesBefore] at h
  | x :: r, y :: s, h => by
    unfold bytesBefore at h
    simp only [Bool.or_eq_true, decide_eq_true_eq, Bool.and_eq_true, beq_iff_eq] at h
    rcases h with h | ⟨rfl, h⟩
    · exact List.le_of_lt (List.Lex.rel h)
    · have := bytes_lt r s h
      exact List.cons_le_cons_iff.2 (.inr ⟨rfl, this⟩)
section
variable {α : Type}
/-- The keys of such a map, sorted, are as they stand. -/
theorem keys_sorted {m : KV α} (h : UpKV m) {ss : List (List UInt8)} (hp : ss.Perm (m.map (·.1))) : ss.mergeSort (fun x y => decide (x ≤ y)) = m.map (·.1) := by
  have tr : ∀ a b c : List UInt8, decide (a ≤ b) = true → decide (b ≤ c) = true → decide (a ≤ c) = true := fun a b c h1 h2 => by
    simp only [decide_eq_true_eq] at *
    exact List.le_trans h1 h2
  have to : ∀ a b : List UInt8, (decide (a ≤ b) || decide (b ≤ a)) = true := fun a b => by
    rcases List.le_total a b with h | h <;> simp [h]
  have s1 := List.pairwise_mergeSort tr to ss
  have s2 : (m.map (·.1)).Pairwise fun x y => decide (x ≤ y) = true := by
    rw [List.pairwise_map]
    exact h.imp fun {a b} hab => decide_eq_true (bytes_lt _ _ hab)
  have hperm : (ss.mergeSort (fun x y => decide (x ≤ y))).Perm (m.map (·.1)) := (List.mergeSort_perm ss _).trans hp
  exact List.Perm.eq_of_pairwise (fun a b _ _ h1 h2 => by
    simp only [decide_eq_true_eq] at h1 h2
    exact List.le_antisymm h1 h2) s1 s2 hperm
end
end Go.Proofs.Ytjffagffjcbolaa
