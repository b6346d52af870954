/- Rows that a call tells: the kit of a reader of rows. -/
import Derived.Test.YtoplengednoldaaGreatDoorRdA
import Derived.Test.YtoplengednoldaaGreatDoorAppAny
namespace Go.Proofs.YtoplengednoldaaGreatDoor
set_option linter.unusedVariables false
set_option linter.unusedSimpArgs false
open Go.RowKit
theorem OwnV.aw {S : List Nat} {w w' : World} {base : Nat} {x : VRow} (h : OwnV w base x) (k : Aw S w w') (hS : ∀ i, i ∈ S → (∀ n v xs, w.ownsRow base 86 4 v n xs → v.ownBlock ≠ some i) ∧ (∀ n v xs, w.ownsRow base 88 5 v n xs → v.ownBlock ≠ some i)) : OwnV w' base x :=
  ⟨own_aw h.1 k (fun i hi e => (hS i e).1 _ _ _ h.1 hi), own_aw h.2 k (fun i hi e => (hS i e).2 _ _ _ h.2 hi)⟩
structure RX (w0 w : World) (r g : Nat) (rv : Value) (s : ByteArray) (a : Nat) (no : Bool) (acc : List VRow) : Prop where
  rd : Rd w r g rv
  sc : Sc w g s a no
  own : w.ownsRow w0.heap.size 74 10 rv acc.length (acc.flatMap rowCell)
  all : ∀ x, x ∈ acc → OwnV w w0.heap.size x
  bl : Below w0.heap.size w0 w
  rg : r ≠ g
  rl : w0.heap.size ≤ r
  gl : w0.heap.size ≤ g
theorem RX.line {w0 w w' : World} {r g : Nat} {rv rv' : Value} {s : ByteArray} {a a' : Nat} {no no' : Bool} {acc : List VRow} {x : VRow} (h : RX w0 w r g rv s a no acc) (h1 : Rd w' r g rv') (h2 : Sc w' g s a' no') (h3 : w'.ownsRow w0.heap.size 74 10 rv' (acc.length + 1) (acc.flatMap rowCell ++ rowCell x)) (h4 : OwnV w' w0.heap.size x) (h5 : Aw (g :: r :: rv.ownBlock.toList) w w') : RX w0 w' r g rv' s a' no' (acc ++ [x]) := by
  refine ⟨h1, h2, by simpa using h3, fun y hy => ?_, h.bl.trans (h5.bel_of (fun i hi => ?_) h.bl.size), h.rg, h.rl, h.gl⟩
  · rcases List.mem_append.1 hy with hy | hy
    · refine (h.all y hy).aw h5 (fun i hi => ?_)
      simp only [List.mem_cons] at hi
      rcases hi with rfl | rfl | hi
      · exact ⟨fun n v xs k => own_blk_ne k h.sc (by decide), fun n v xs k => own_blk_ne k h.sc (by decide)⟩
      · exact ⟨fun n v xs k => own_blk_ne k h.rd (by decide), fun n v xs k => own_blk_ne k h.rd (by decide)⟩
      · have hi : rv.ownBlock = some i := by simpa using hi
        exact ⟨fun n v xs k e => own_own_ne k h.own (by decide) i e hi, fun n v xs k e => own_own_ne k h.own (by decide) i e hi⟩
    · rw [List.mem_singleton.1 hy]; exact h4
  · simp only [List.mem_cons] at hi
    rcases hi with rfl | rfl | hi
    · exact h.gl
    · exact h.rl
    · exact (h.own.lt i (by simpa using hi)).1
theorem RX.scan {w0 w w' : World} {S : List Nat} {r g : Nat} {rv : Value} {s : ByteArray} {a a' : Nat} {no no' : Bool} {acc : List VRow} (h : RX w0 w r g rv s a no acc) (k : Aw S w w') (hs : Sc w' g s a' no') (hS : ∀ i, i ∈ S → i = g) : RX w0 w' r g rv s a' no' acc := by
  refine ⟨Blk.aw h.rd k (fun e => h.rg (hS _ e)), hs, own_aw h.own k (fun i hi e => ?_), fun x hx => (h.all x hx).aw k (fun i hi => ?_), h.bl.trans (k.bel_of (fun i hi => by rw [hS i hi]; exact h.gl) h.bl.size), h.rg, h.rl, h.gl⟩
  · rw [hS i e] at hi; exact own_blk_ne h.own h.sc (by decide) hi
  · rw [hS i hi]; exact ⟨fun n v xs q => own_blk_ne q h.sc (by decide), fun n v xs q => own_blk_ne q h.sc (by decide)⟩
theorem RX.lr {w0 w : World} {r g : Nat} {rv : Value} {s : ByteArray} {a : Nat} {no : Bool} {acc : List VRow} (h : RX w0 w r g rv s a no acc) : LR w w r g rv s a no := ⟨h.rd, h.sc, h.rg, Aw.refl _ _⟩
/-- Rows that a call tells, with their tags, their fields. -/
def HasRows (w : World) (B : Nat) (A : Option Addr) (n : Nat) (rows : List MRow) : Prop :=
  ∃ l : List VRow, l.map VRow.row = rows ∧ IsRows rowCell 10 w B A n l ∧ ∀ x ∈ l, IsRows tagCell 4 w B x.tA x.row.tags.length x.row.tags ∧ IsRows fieldCell 5 w B x.fA x.row.fields.length x.row.fields
theorem HasRows.nil_ {w : World} {B : Nat} {A : Option Addr} : HasRows w B A 0 [] := ⟨[], rfl, IsRows.nil_, by simp⟩
theorem HasRows.below {w w' : World} {B : Nat} {A : Option Addr} {n : Nat} {rows : List MRow} (h : HasRows w B A n rows) (k : Below B w w') : HasRows w' B A n rows := by
  obtain ⟨l, h1, h2, h3⟩ := h
  exact ⟨l, h1, h2.below k, fun x hx => ⟨(h3 x hx).1.below k, (h3 x hx).2.below k⟩⟩
theorem HasRows.more {w : World} {B B' : Nat} {A : Option Addr} {n : Nat} {rows : List MRow} (h : HasRows w B A n rows) (k : B ≤ B') : HasRows w B' A n rows := by
  obtain ⟨l, h1, h2, h3⟩ := h
  exact ⟨l, h1, h2.more k, fun x hx => ⟨(h3 x hx).1.more k, (h3 x hx).2.more k⟩⟩
theorem own_rows2 {α : Type} {f : α → List Value} {size : Nat} (hf : ∀ x, (f x).length = size) {w : World} {base : Nat} {e : TypeId} {A : Option Addr} {c n : Nat} {l : List α} (h : w.ownsRow base e size (.slice A n c) n (l.flatMap f)) (hn : l.length = n) : IsRows f size w w.heap.size A n l := by
  obtain ⟨hl, ⟨hv, rfl⟩ | ⟨g, cap, cur, hv, hg, hh, hnc, hcm, hcs, htk⟩⟩ := h
  · exact ⟨hn, fun h => absurd h (by omega)⟩
  · injection hv with hA _ _
    subst hA
    refine ⟨hn, fun _ => ⟨g, 0, rfl, ?_, fun i x j u hx hu => ?_⟩⟩
    · rcases Nat.lt_or_ge g w.heap.size with h' | h'
      · exact h'
      · rw [Array.getElem?_eq_none (by omega)] at hh; cases hh
    · have h1 := flatMap_at f size hf l i x j u hx hu
      rw [← htk] at h1
      rw [cell_of_row w g (0 + (i * size + j)) cur e (0, 0) hh, Nat.zero_add, ← Array.getElem?_toList]
      rw [List.getElem?_take] at h1
      split at h1
      · exact h1
      · cases h1
theorem RX.has {w0 w : World} {r g : Nat} {rv : Value} {s : ByteArray} {a : Nat} {no : Bool} {acc : List VRow} (h : RX w0 w r g rv s a no acc) : ∃ A c, rv = .slice A acc.length c ∧ HasRows w w.heap.size A acc.length (acc.map VRow.row) := by
  obtain ⟨A, c, rfl⟩ := own_form h.own
  exact ⟨A, c, rfl, acc, rfl, own_rows2 (f := rowCell) (fun _ => rfl) h.own rfl, fun x hx => ⟨own_rows2 (f := tagCell) (fun _ => rfl) (h.all x hx).1 rfl, own_rows2 (f := fieldCell) (fun _ => rfl) (h.all x hx).2 rfl⟩⟩
/-- What Rows tells. -/
def RowsE (R : List MRow × Nat × Bool) (e : Ending) (w' : World) : Prop := ∃ A n c, e = .returned (.tuple #[.slice A n c, .bool (!R.2.2)]) ∧ HasRows w' w'.heap.size A n (if R.2.2 then [] else R.1)
theorem rowsE_no {R : List MRow} {a : Nat} {w' : World} : RowsE (R, a, true) (.returned (.tuple #[.slice none 0 0, .bool false])) w' := ⟨_, _, _, rfl, HasRows.nil_⟩
theorem rowsE_yes {R : List MRow} {a : Nat} {w' : World} {A : Option Addr} {n c : Nat} (h : HasRows w' w'.heap.size A n R) : RowsE (R, a, false) (.returned (.tuple #[.slice A n c, .bool true])) w' := ⟨_, _, _, rfl, h⟩
theorem LR.app {w0 w w' : World} {r g : Nat} {rv : Value} {s : ByteArray} {a : Nat} {no : Bool} {e : TypeId} {size n : Nat} {tv : Value} {xs : List Value} (h : LR w0 w r g rv s a no) (ho : w.ownsRow w0.heap.size e size tv n xs) (k : Aw tv.ownBlock.toList w w') (hr : r < w0.heap.size) (hg : g < w0.heap.size) : LR w0 w' r g rv s a no :=
  ⟨Blk.aw h.rd k (fun q => by have := (ho.lt _ (by simpa using q)).1; omega), h.sc.aw k (fun q => by have := (ho.lt _ (by simpa using q)).1; omega), h.rg, h.aw.own k (fun i hi => .inr (ho.lt i (by simpa using hi)).1)⟩
end Go.Proofs.YtoplengednoldaaGreatDoor
