/- A slice of strings that came in. -/
import Derived.Test.YtjffagffjcbolaaRows
import Derived.Test.YtjffagffjcbolaaOpen
import Derived.Test.YtjffagffjcbolaaCore
namespace Go.Proofs.Ytjffagffjcbolaa
set_option linter.unusedVariables false
set_option linter.unusedSimpArgs false
open Go.RowKit
theorem Try.cellsOfStr : Try.prog.cellsOf 9 = 1 := by kernel_rfl
/-- A slice of strings that came in. -/
def IsStrs (w : World) (A : Option Addr) (len cap : Nat) (xs : List ByteArray) : Prop := IsRows strCell 1 w w.heap.size A len xs ∧ (∀ x ∈ xs, x.size ≤ maxLen) ∧ len ≤ cap ∧ cap ≤ maxLen
theorem open_isStrs {H : Type} {enc : TypeId × Value → H} {w : World} {base : Nat} {spare : Nat → Bool} {held : Bool} {A : Option Addr} {len cap : Nat} {d : DataW H} {ps : List MemPlace}
    (h : DataW.Trod enc Try.prog w base spare held 42 (.slice A len cap) d ps) : ∃ xs, IsStrs w A len cap xs := by
  obtain ⟨fuel, hf⟩ := h
  obtain ⟨xs, h1, h4, h2, h3⟩ := open_isRows strCell (fun x => x.size ≤ maxLen) 1 Try.cellsOfStr (by omega) Try.underlying42 (fun n cs x hx => by
    obtain ⟨y, e, _, hy⟩ := DataW.trod_string Try.underlying9 hx
    exact ⟨y, e, hy⟩) ⟨fuel, hf⟩
  exact ⟨xs, h1, h4, h2, h3⟩
end Go.Proofs.Ytjffagffjcbolaa
