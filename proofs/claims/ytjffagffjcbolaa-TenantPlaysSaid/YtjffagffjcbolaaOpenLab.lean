/- A slice of labels that came in. -/
import Derived.Test.YtjffagffjcbolaaRows
import Derived.Test.YtjffagffjcbolaaOpen
import Derived.Test.YtjffagffjcbolaaLabDef
namespace Go.Proofs.Ytjffagffjcbolaa
set_option linter.unusedVariables false
set_option linter.unusedSimpArgs false
open Go.RowKit
theorem Try.cellsOfLab : Try.prog.cellsOf 88 = 2 := by kernel_rfl
theorem Try.cellsOfStr1 : Try.prog.cellsOf 9 = 1 := by kernel_rfl
/-- A slice of labels that came in. -/
def IsLabels (w : World) (A : Option Addr) (len cap : Nat) (xs : List Lab) : Prop := IsRows labCell 2 w w.heap.size A len xs ∧ (∀ x ∈ xs, x.1.size ≤ maxLen ∧ x.2.size ≤ maxLen) ∧ len ≤ cap ∧ cap ≤ maxLen
section
variable {H : Type} {enc : TypeId × Value → H} {w : World} {base : Nat} {spare : Nat → Bool} {held : Bool}
set_option maxRecDepth 100000 in
theorem open_lab {n : Nat} {cs : List Value} {x : DataW H × List MemPlace} (h : DataW.trod enc Try.prog w base spare held n 88 cs = some x) : ∃ y : Lab, cs = labCell y ∧ y.1.size ≤ maxLen ∧ y.2.size ≤ maxLen := by
  obtain ⟨xs, m, _, _, hl, hlen, hf⟩ := DataW.trod_struct Try.underlying88 h
  rw [Try.cellsOfLab] at hl
  match cs, hl with
  | [a, b], _ =>
    match xs, hlen with
    | [x0, x1], _ =>
      have h0 := hf 0 _ rfl
      have h1 := hf 1 _ rfl
      simp [Try.cellsOfStr1] at h0 h1
      obtain ⟨o, e0, _, s0⟩ := DataW.trod_string Try.underlying9 h0
      obtain ⟨l, e1, _, s1⟩ := DataW.trod_string Try.underlying9 h1
      simp only [List.cons.injEq, and_true] at e0 e1
      exact ⟨(o, l), by rw [e0, e1]; rfl, s0, s1⟩
end
theorem open_isLabels {H : Type} {enc : TypeId × Value → H} {w : World} {base : Nat} {spare : Nat → Bool} {held : Bool} {A : Option Addr} {len cap : Nat} {d : DataW H} {ps : List MemPlace}
    (h : DataW.Trod enc Try.prog w base spare held 61 (.slice A len cap) d ps) : ∃ xs, IsLabels w A len cap xs := by
  obtain ⟨fuel, hf⟩ := h
  obtain ⟨xs, h1, h4, h2, h3⟩ := open_isRows labCell (fun x => x.1.size ≤ maxLen ∧ x.2.size ≤ maxLen) 2 Try.cellsOfLab (by omega) Try.underlying61 (fun n cs x hx => open_lab hx) ⟨fuel, hf⟩
  exact ⟨xs, h1, h4, h2, h3⟩
end Go.Proofs.Ytjffagffjcbolaa
