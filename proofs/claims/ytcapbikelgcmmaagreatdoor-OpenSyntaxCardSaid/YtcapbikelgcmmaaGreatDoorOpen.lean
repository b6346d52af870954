/- Slices of structs and of strings that came in: element by element, cell by cell. -/
import Derived.Test.YtcapbikelgcmmaaGreatDoorMem
import Derived.ProofKit
import Derived.Deep.Slices
namespace Go.Proofs.YtcapbikelgcmmaaGreatDoor
set_option linter.unusedVariables false
set_option linter.unusedSimpArgs false
open Go.RowKit
/-- A slice value whose i-th element's cells are 'f xs[i]': nil and empty let in. -/
def IsRows {α : Type} (f : α → List Value) (size : Nat) (w : World) (B : Nat) (A : Option Addr) (n : Nat) (xs : List α) : Prop :=
  xs.length = n ∧ (0 < n → ∃ b off, A = some ⟨b, off, none⟩ ∧ b < B ∧ ∀ i x j u, xs[i]? = some x → (f x)[j]? = some u → w.cell? ⟨b, off + (i * size + j), none⟩ = some u)
section
variable {α : Type} {f : α → List Value} {size : Nat} {w w' : World} {B B' : Nat} {A : Option Addr} {n : Nat} {xs : List α}
theorem IsRows.keep (h : IsRows f size w B A n xs) (hk : ∀ b o, b < B → w'.cell? ⟨b, o, none⟩ = w.cell? ⟨b, o, none⟩) : IsRows f size w' B A n xs :=
  ⟨h.1, fun hn => by
    obtain ⟨b, off, e, hb, hc⟩ := h.2 hn
    exact ⟨b, off, e, hb, fun i x j u hx hu => (hk _ _ hb).trans (hc i x j u hx hu)⟩⟩
theorem IsRows.below (h : IsRows f size w B A n xs) (hb : Below B w w') : IsRows f size w' B A n xs := h.keep fun b o hp => hb.cell (p := ⟨b, o, none⟩) hp
theorem IsRows.more (h : IsRows f size w B A n xs) (hB : B ≤ B') : IsRows f size w B' A n xs :=
  ⟨h.1, fun hn => by
    obtain ⟨b, off, e, hb, hc⟩ := h.2 hn
    exact ⟨b, off, e, by omega, hc⟩⟩
theorem IsRows.nil_ : IsRows f size w B A 0 ([] : List α) := ⟨rfl, fun h => absurd h (by omega)⟩
end
theorem flatMap_at {α : Type} (f : α → List Value) (size : Nat) (hf : ∀ x, (f x).length = size) : ∀ (xs : List α) (i : Nat) (x : α) (j : Nat) (u : Value), xs[i]? = some x → (f x)[j]? = some u → (xs.flatMap f)[i * size + j]? = some u
  | [], i, x, j, u, h, _ => by simp at h
  | y :: ys, 0, x, j, u, h, hu => by
    simp at h; subst h
    have hj := (List.getElem?_eq_some_iff.1 hu).1
    rw [List.flatMap_cons, Nat.zero_mul, Nat.zero_add, List.getElem?_append_left hj]; exact hu
  | y :: ys, i + 1, x, j, u, h, hu => by
    have ih := flatMap_at f size hf ys i x j u (by simpa using h) hu
    rw [List.flatMap_cons, List.getElem?_append_right (by rw [hf, Nat.add_mul, Nat.one_mul]; omega), hf, show (i + 1) * size + j - size = i * size + j by rw [Nat.add_mul, Nat.one_mul]; omega]
    exact ih
/-- A row that the call has just made. -/
theorem IsRows.made {α : Type} {f : α → List Value} {size : Nat} (hf : ∀ x, (f x).length = size) (W : World) (T : TypeId) (cs : Array Value) (xs : List α) (h : cs.toList = xs.flatMap f) :
    IsRows f size (W.alloc (.cells cs T)) (W.alloc (.cells cs T)).heap.size (some ⟨W.heap.size, 0, none⟩) xs.length xs := by
  refine ⟨rfl, fun _ => ⟨_, _, rfl, by simp, fun i x j u hx hu => ?_⟩⟩
  rw [World.cell?_alloc_at _ _ _ _ rfl, Nat.zero_add, ← Array.getElem?_toList, h]
  exact flatMap_at f size hf xs i x j u hx hu
theorem lt_of_cell {w : World} {a : Addr} {v : Value} (h : w.cell? a = some v) : a.block < w.heap.size := by
  rcases Nat.lt_or_ge a.block w.heap.size with h' | h'
  · exact h'
  · unfold World.cell? at h
    rw [Array.getElem?_eq_none h'] at h
    simp at h
section
variable {H : Type} {enc : TypeId × Value → H} {P : Program} {w : World} {base : Nat} {spare : Nat → Bool} {held : Bool}
theorem open_isRows {α : Type} [Inhabited α] (f : α → List Value) (OK : α → Prop) (size : Nat) {t e : TypeId} (hsz : P.cellsOf e = size) (hpos : 0 < size) (ht : P.underlying t = some (.slice e))
    (hq : ∀ n cs x, DataW.trod enc P w base spare held n e cs = some x → ∃ y, cs = f y ∧ OK y) {A : Option Addr} {len cap : Nat} {x : DataW H × List MemPlace}
    (h : ∃ fuel, DataW.trod enc P w base spare held fuel t (Value.cells (.slice A len cap)).toList = some x) :
    ∃ xs : List α, IsRows f size w w.heap.size A len xs ∧ (∀ y ∈ xs, OK y) ∧ len ≤ cap ∧ cap ≤ maxLen := by
  obtain ⟨fuel, hf⟩ := h
  rcases Go.Deep.open_slice ht hf with ⟨hcs, _⟩ | ⟨a, l, c, m, n, D, Pl, hcs, _, hl, hm, hmm, _, hx⟩
  · simp [Value.cells] at hcs
    obtain ⟨rfl, rfl, rfl⟩ := hcs
    exact ⟨[], IsRows.nil_, by simp, Nat.le_refl _, Nat.zero_le _⟩
  · simp [Value.cells] at hcs
    obtain ⟨rfl, rfl, rfl⟩ := hcs
    have hlm : len ≤ m := by rw [hmm]; split <;> omega
    obtain ⟨g, hg⟩ := Go.Deep.choose_lt (α := α) (n := len) (p := fun i y => OK y ∧ ∀ j u, (f y)[j]? = some u → j < size ∧ w.cell? (a.add (i * size + j)) = some u) (fun i hi => by
      obtain ⟨cs', h1, h2⟩ := hx i (by omega)
      obtain ⟨y, rfl, hy⟩ := hq _ _ _ h2
      obtain ⟨_, hlen, hc⟩ := World.cells?_some h1
      rw [hsz] at hlen hc
      refine ⟨y, hy, fun j u hu => ?_⟩
      have hj : j < size := by
        have := (List.getElem?_eq_some_iff.1 hu).1; omega
      have := hc j hj
      rw [Go.Deep.add_add] at this
      exact ⟨hj, this.trans hu⟩)
    refine ⟨(List.range len).map g, ⟨by simp, fun hn => ?_⟩, ?_, hl, hm⟩
    · have hsp : ∃ b off, a = ⟨b, off, none⟩ ∧ b < w.heap.size := by
        obtain ⟨cs', h1, h2⟩ := hx 0 (by omega)
        obtain ⟨_, hlen, hc⟩ := World.cells?_some h1
        rw [hsz] at hlen hc
        have h0 := hc 0 hpos
        rw [Go.Deep.add_add] at h0
        simp only [Nat.zero_mul, Nat.add_zero] at h0
        rw [List.getElem?_eq_getElem (by omega)] at h0
        have e0 : a.add 0 = a := by simp [Addr.add]
        rw [e0] at h0
        have hs := World.cell?_spot h0
        have hb := lt_of_cell h0
        obtain ⟨b, off, sp⟩ := a
        simp only at hs hb
        subst hs
        exact ⟨b, off, rfl, hb⟩
      obtain ⟨b, off, rfl, hb⟩ := hsp
      refine ⟨b, off, rfl, hb, fun i y j u hy hu => ?_⟩
      have hi : i < len := by
        have := (List.getElem?_eq_some_iff.1 hy).1; simpa using this
      rw [List.getElem?_map, List.getElem?_range hi] at hy
      simp only [Option.map_some, Option.some.injEq] at hy
      subst hy
      have := ((hg i hi).2 j u hu).2
      have e : (⟨b, off, none⟩ : Addr).add (i * size + j) = ⟨b, off + (i * size + j), none⟩ := by unfold Addr.add; split <;> simp_all
      rw [e] at this
      exact this
    · intro y hy
      obtain ⟨i, hi, rfl⟩ := List.mem_map.1 hy
      exact (hg i (by simpa using hi)).1
end
end Go.Proofs.YtcapbikelgcmmaaGreatDoor
