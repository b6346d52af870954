/- A row of the call's own that slices.SortFunc turns: what it holds before and behind. -/
import Derived.Test.YtcapbikelgcmmaaGreatDoorMgSc9
import Derived.Test.YtcapbikelgcmmaaGreatDoorShelfL
import Derived.Lib.OwnBridge
namespace Go.Proofs.YtcapbikelgcmmaaGreatDoor
set_option linter.unusedVariables false
set_option linter.unusedSimpArgs false
open Go.RowKit Go.Sort
section
variable {α : Type} {f : α → List Value} {size : Nat}
theorem flat_inv (hf : ∀ x, (f x).length = size) (hpos : 0 < size) : ∀ (l : List α) (j : Nat) (u : Value), (l.flatMap f)[j]? = some u → ∃ x, l[j / size]? = some x ∧ (f x)[j % size]? = some u := by
  intro l
  induction l with
  | nil => intro j u hu; simp at hu
  | cons x l ih =>
    intro j u hu
    rw [List.flatMap_cons] at hu
    rcases Nat.lt_or_ge j size with hlt | hge
    · rw [List.getElem?_append_left (by rw [hf]; exact hlt)] at hu
      exact ⟨x, by rw [Nat.div_eq_of_lt hlt]; rfl, by rw [Nat.mod_eq_of_lt hlt]; exact hu⟩
    · rw [List.getElem?_append_right (by rw [hf]; exact hge), hf] at hu
      obtain ⟨y, h1, h2⟩ := ih _ _ hu
      exact ⟨y, by rw [Nat.div_eq_sub_div hpos hge]; simpa using h1, by rw [Nat.mod_eq_sub_mod hge]; exact h2⟩
theorem flat_len (hf : ∀ x, (f x).length = size) (l : List α) : (l.flatMap f).length = l.length * size := by
  induction l with
  | nil => simp
  | cons x l ih => rw [List.flatMap_cons, List.length_append, hf, ih, List.length_cons, Nat.add_mul]; omega
end
section
variable {α : Type} [Inhabited α] {f : α → List Value} {size : Nat}
theorem holdsK_own (hf : ∀ x, (f x).length = size) (hpos : 0 < size) {w : World} {base g n cap : Nat} {e : TypeId} {l : List α} (h : w.ownsRow base e size (.slice (some ⟨g, 0, none⟩) n cap) n (l.flatMap f)) (hn : l.length = n) : HoldsK f size w g 0 l.toArray := by
  obtain ⟨hl, ⟨h0, _⟩ | ⟨g', cap', cur, hv, hg, hh, hnc, hcm, hcs, htk⟩⟩ := h
  · cases h0
  cases hv
  intro j hj
  rw [size_flatK] at hj
  have hj' : j < l.length * size := by simpa using hj
  refine ⟨?_, by simp [World.frozen?, hh]⟩
  rw [cell_of_row w g (0 + j) cur e (0, 0) hh, Nat.zero_add, get_flatK f size _ j hj]
  have hlt : j < (l.flatMap f).length := by rw [flat_len hf]; exact hj'
  obtain ⟨x, h1, h2⟩ := flat_inv hf hpos l j _ (List.getElem?_eq_getElem hlt)
  have h3 : (cur.toList.take (n * size))[j]? = some (l.flatMap f)[j] := by rw [htk]; exact List.getElem?_eq_getElem hlt
  rw [List.getElem?_take] at h3
  split at h3
  · rw [← Array.getElem?_toList, h3]
    have h4 : l.toArray[j / size]! = x := by
      rw [getElem!_def]; simp [h1]
    rw [h4, ← h2]
    show (f x)[j % size]? = some (f x)[j % size]!
    have h5 := (List.getElem?_eq_some_iff.1 h2).1
    rw [List.getElem?_eq_getElem h5]
    simp [h5]
  · cases h3
theorem rows_holdsK (hf : ∀ x, (f x).length = size) {w : World} {g : Nat} {d : Array α} (h : HoldsK f size w g 0 d) (hg : g < w.heap.size) : IsRows f size w w.heap.size (some ⟨g, 0, none⟩) d.size d.toList := by
  refine ⟨by simp, fun _ => ⟨g, 0, rfl, hg, fun i x j u hx hu => ?_⟩⟩
  have hi : i < d.size := by have := (List.getElem?_eq_some_iff.1 hx).1; simpa using this
  have hj : j < size := by have := (List.getElem?_eq_some_iff.1 hu).1; rw [hf] at this; exact this
  have hlt : i * size + j < d.size * size := by
    have : (i + 1) * size ≤ d.size * size := Nat.mul_le_mul_right _ hi
    rw [Nat.add_mul] at this; omega
  have h1 := (h (i * size + j) (by rw [size_flatK]; exact hlt)).1
  rw [h1, get_flatK f size d _ hlt]
  have hsz : 0 < size := by omega
  have e1 : (i * size + j) / size = i := by
    rw [Nat.mul_comm, Nat.mul_add_div hsz, Nat.div_eq_of_lt hj]; rfl
  have e2 : (i * size + j) % size = j := by
    rw [Nat.mul_comm, Nat.mul_add_mod, Nat.mod_eq_of_lt hj]
  rw [e1, e2]
  have e3 : d[i]! = x := by
    rw [getElem!_def]
    rw [Array.getElem?_toList] at hx
    rw [hx]
  rw [e3]
  have h5 := (List.getElem?_eq_some_iff.1 hu).1
  show some (f x)[j]! = some u
  rw [← hu]
  simp [h5]
theorem below_sortK {B g m : Nat} {w0 w : World} {d : Array α} {os : Array Obj} (h : Below B w0 w) (hB : B ≤ w.heap.size) (hg : B ≤ g) : Below B w0 (sortWorldK f size w g 0 m d os) := by
  have h1 : Below B w0 (putRow id (Sort.ahead w m) g 0 (flatK f size d)) := Lib.below_putRow h hg
  have hsz : (putRow id (Sort.ahead w m) g 0 (flatK f size d)).heap.size = w.heap.size := by simp [putRow, mapBlock, Sort.ahead]
  refine h1.trans ⟨rfl, rfl, rfl, ?_, fun j hj => ?_⟩
  · show _ ≤ ((putRow id (Sort.ahead w m) g 0 (flatK f size d)).heap ++ os).size
    rw [Array.size_append]; omega
  · exact Sort.heap_grow_old _ _ (by show j < (putRow id (Sort.ahead w m) g 0 (flatK f size d)).heap.size; rw [hsz]; omega)
theorem perm_of {d d' : Array α} (h : PermIn 0 d.size d d') : d'.toList.Perm d.toList := by
  obtain ⟨h1, _, h3⟩ := h
  have e1 : d'.extract 0 d.size = d' := by rw [← h1]; simp
  have e2 : d.extract 0 d.size = d := by simp
  rw [e1, e2] at h3
  exact h3
end
end Go.Proofs.YtcapbikelgcmmaaGreatDoor
