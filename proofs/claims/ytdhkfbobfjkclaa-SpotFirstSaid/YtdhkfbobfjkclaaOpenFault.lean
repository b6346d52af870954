/- A slice of faults that came in. -/
import Derived.Test.YtdhkfbobfjkclaaRows
import Derived.Test.YtdhkfbobfjkclaaOpen
namespace Go.Proofs.Ytdhkfbobfjkclaa
open Go.RowKit
structure Flt where
  c : Int
  o : Int
  l : Int
  k : Int
instance : Inhabited Flt := ⟨⟨0, 0, 0, 0⟩⟩
def fltCells (f : Flt) : List Value := [.int .i64 f.c, .int .i64 f.o, .int .i64 f.l, .int .i64 f.k]
theorem Try.cellsOfFault : Try.prog.cellsOf 36 = 4 := by kernel_rfl
theorem Try.cellsOfSpot : Try.prog.cellsOf 32 = 3 := by kernel_rfl
theorem Try.cellsOfErrno : Try.prog.cellsOf 34 = 1 := by kernel_rfl
theorem Try.cellsOfInt : Try.prog.cellsOf 3 = 1 := by kernel_rfl
section
variable {H : Type} {enc : TypeId × Value → H} {w : World} {base : Nat} {spare : Nat → Bool} {held : Bool}
theorem open_spot {n : Nat} {cs : List Value} {x : DataW H × List MemPlace} (h : DataW.trod enc Try.prog w base spare held n 32 cs = some x) : ∃ o l k : Int, cs = [.int .i64 o, .int .i64 l, .int .i64 k] := by
  obtain ⟨xs, m, _, _, hl, hlen, hf⟩ := DataW.trod_struct Try.underlying32 h
  rw [Try.cellsOfSpot] at hl
  match cs, hl with
  | [a, b, c], _ =>
    match xs, hlen with
    | [x0, x1, x2], _ =>
      have h0 := hf 0 _ rfl
      have h1 := hf 1 _ rfl
      have h2 := hf 2 _ rfl
      simp [Try.cellsOfInt] at h0 h1 h2
      obtain ⟨o, e0, _, _⟩ := DataW.trod_int Try.underlying3 h0
      obtain ⟨l, e1, _, _⟩ := DataW.trod_int Try.underlying3 h1
      obtain ⟨k, e2, _, _⟩ := DataW.trod_int Try.underlying3 h2
      simp only [List.cons.injEq, and_true] at e0 e1 e2
      exact ⟨o, l, k, by rw [e0, e1, e2]⟩
theorem open_fault {n : Nat} {cs : List Value} {x : DataW H × List MemPlace} (h : DataW.trod enc Try.prog w base spare held n 36 cs = some x) : ∃ y : Flt, cs = fltCells y ∧ True := by
  obtain ⟨y0, y1, m, _, hl, h0, h1⟩ := Go.ChangeShapes.trod_struct2 Try.underlying36 h
  rw [Try.cellsOfFault] at hl
  match cs, hl with
  | [a, b, c, d], _ =>
    simp [Try.cellsOfErrno, Try.cellsOfSpot] at h0 h1
    obtain ⟨q, e0, _, _⟩ := DataW.trod_int Try.underlying34 h0
    obtain ⟨o, l, k, e1⟩ := open_spot h1
    simp only [List.cons.injEq, and_true] at e0 e1
    obtain ⟨rfl, rfl, rfl⟩ := e1
    exact ⟨⟨q, o, l, k⟩, by rw [e0]; rfl, trivial⟩
end
/-- A slice of faults that came in. -/
def IsFaults (w : World) (A : Option Addr) (len cap : Nat) (xs : List Flt) : Prop := IsRows fltCells 4 w w.heap.size A len xs ∧ len ≤ cap ∧ cap ≤ maxLen
theorem open_isFaults {H : Type} {enc : TypeId × Value → H} {w : World} {base : Nat} {spare : Nat → Bool} {held : Bool} {A : Option Addr} {len cap : Nat} {d : DataW H} {ps : List MemPlace}
    (h : DataW.Trod enc Try.prog w base spare held 30 (.slice A len cap) d ps) : ∃ xs, IsFaults w A len cap xs := by
  obtain ⟨fuel, hf⟩ := h
  obtain ⟨xs, h1, _, h2, h3⟩ := open_isRows fltCells (fun _ => True) 4 Try.cellsOfFault (by omega) Try.underlying30 (fun n cs x hx => open_fault hx) ⟨fuel, hf⟩
  exact ⟨xs, h1, h2, h3⟩
end Go.Proofs.Ytdhkfbobfjkclaa
