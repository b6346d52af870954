/- The walks of label.Get, label.Without and of the reference's. -/
import Derived.Test.YtjffagffjcbolaaLabDef
import Derived.Test.YtjffagffjcbolaaCore
import Derived.Test.YtjffagffjcbolaaMem
import Derived.BigQuiet
import Derived.Deep.QuietTactic
namespace Go.Proofs.Ytjffagffjcbolaa
set_option linter.unusedVariables false
set_option linter.unusedSimpArgs false
open Go.RowKit
theorem Try.infoLabel : (Try.prog.info? 88).map (fun i => (i.zero, i.size, i.bytes)) = some (some (.agg #[.string ⟨#[]⟩, .string ⟨#[]⟩]), 2, 32) := by kernel_rfl
theorem blk_at {w : World} {o : Obj} {g : Nat} (h : g = w.heap.size) : (w.alloc o).heap[g]? = some o := by subst h; exact heap_alloc_new w o
theorem lab_at {w : World} {B : Nat} {A : Option Addr} {n : Nat} {L : List Lab} (h : IsRows labCell 2 w B A n L) {k : Nat} (hk : k < n) : ∃ (b off : Nat) (x y : ByteArray), A = some ⟨b, off, none⟩ ∧ b < B ∧ L[k]? = some (x, y) ∧ w.cell? ⟨b, off + k * 2, none⟩ = some (.string x) ∧ w.cell? ⟨b, off + k * 2 + 1, none⟩ = some (.string y) := by
  obtain ⟨b, off, rfl, hb, hc⟩ := h.2 (by omega)
  obtain ⟨⟨x, y⟩, hx⟩ : ∃ z, L[k]? = some z := ⟨_, List.getElem?_eq_getElem (by have := h.1; omega)⟩
  refine ⟨b, off, x, y, rfl, hb, hx, ?_, ?_⟩
  · exact hc k (x, y) 0 (.string x) hx rfl
  · exact hc k (x, y) 1 (.string y) hx rfl
theorem str_at {w : World} {B : Nat} {A : Option Addr} {n : Nat} {L : List ByteArray} (h : IsRows strCell 1 w B A n L) {k : Nat} (hk : k < n) : ∃ (b off : Nat) (x : ByteArray), A = some ⟨b, off, none⟩ ∧ b < B ∧ L[k]? = some x ∧ w.cell? ⟨b, off + k, none⟩ = some (.string x) := by
  obtain ⟨b, off, rfl, hb, hc⟩ := h.2 (by omega)
  obtain ⟨x, hx⟩ : ∃ z, L[k]? = some z := ⟨_, List.getElem?_eq_getElem (by have := h.1; omega)⟩
  exact ⟨b, off, x, rfl, hb, hx, by have := hc k x 0 (.string x) hx rfl; simpa using this⟩
theorem drop_at {α : Type} {L : List α} {k : Nat} {x : α} (h : L[k]? = some x) : L.drop k = x :: L.drop (k + 1) := by
  obtain ⟨h1, h2⟩ := List.getElem?_eq_some_iff.1 h
  rw [List.drop_eq_getElem_cons h1, h2]
theorem get_yes {L : List Lab} {k : Nat} {x y : ByteArray} {n : List UInt8} (h : L[k]? = some (x, y)) (e : (x.data.toList == n) = true) : getL (L.drop k) n = some (x, y) := by
  rw [drop_at h, getL, List.find?_cons]
  have : (nmL (x, y) == n) = true := e
  rw [this]
theorem get_no {L : List Lab} {k : Nat} {x y : ByteArray} {n : List UInt8} (h : L[k]? = some (x, y)) (e : (x.data.toList == n) = false) : getL (L.drop k) n = getL (L.drop (k + 1)) n := by
  rw [drop_at h, getL, List.find?_cons]
  have : (nmL (x, y) == n) = false := e
  rw [this, getL]
theorem get_end {L : List Lab} {k : Nat} {n : List UInt8} (h : L.length ≤ k) : getL (L.drop k) n = none := by
  rw [List.drop_of_length_le h]; rfl
theorem ret_get {r q : Option Lab} (h : r = q) : Ending.returned (.tuple #[.string (getV q), .bool q.isSome]) = .returned (.tuple #[.string (getV r), .bool r.isSome]) := by rw [h]
/-! ### without -/
def inN (names : List ByteArray) (x : ByteArray) : Bool := names.any fun n => n.data.toList == x.data.toList
theorem out_yes {L : List Lab} {k : Nat} {x y : ByteArray} {names : List ByteArray} (h : L[k]? = some (x, y)) (e : inN names x = false) : outL (L.take (k + 1)) names = outL (L.take k) names ++ [(x, y)] := by
  have e2 : (names.any fun n => n.data.toList == nmL (x, y)) = false := e
  rw [List.take_add_one, h, outL, outL, List.filter_append]
  simp only [Option.toList_some, List.filter_cons, List.filter_nil, e2]; rfl
theorem out_no {L : List Lab} {k : Nat} {x y : ByteArray} {names : List ByteArray} (h : L[k]? = some (x, y)) (e : inN names x = true) : outL (L.take (k + 1)) names = outL (L.take k) names := by
  have e2 : (names.any fun n => n.data.toList == nmL (x, y)) = true := e
  rw [List.take_add_one, h, outL, outL, List.filter_append]
  simp only [Option.toList_some, List.filter_cons, List.filter_nil, e2]; simp
theorem out_len (L : List Lab) (k : Nat) (names : List ByteArray) : (outL (L.take k) names).length ≤ k := Nat.le_trans (List.length_filter_le _ _) (List.length_take_le _ _)
end Go.Proofs.Ytjffagffjcbolaa
