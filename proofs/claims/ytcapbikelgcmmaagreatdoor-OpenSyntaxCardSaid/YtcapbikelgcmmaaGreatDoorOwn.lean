/- Rows and builders of the call's own behind a callee that touches nothing beneath. -/
import Derived.Test.YtcapbikelgcmmaaGreatDoorProg
import Derived.Test.YtcapbikelgcmmaaGreatDoorAux2
import Derived.Lib.Builder
import Derived.Lib.AppendStr
namespace Go.Proofs.YtcapbikelgcmmaaGreatDoor
set_option linter.unusedVariables false
set_option linter.unusedSimpArgs false
open Go.RowKit
theorem own_bel {w w' : World} {base : Nat} {e : TypeId} {size : Nat} {v : Value} {n : Nat} {xs : List Value} (h : w.ownsRow base e size v n xs) (hb : Below w.heap.size w w') : w'.ownsRow base e size v n xs := by
  obtain ⟨hl, h | ⟨g, cap, cur, hv, hg, hh, r⟩⟩ := h
  · exact ⟨hl, .inl h⟩
  · refine ⟨hl, .inr ⟨g, cap, cur, hv, hg, ?_, r⟩⟩
    have hlt : g < w.heap.size := by
      rcases Nat.lt_or_ge g w.heap.size with h' | h'
      · exact h'
      · rw [Array.getElem?_eq_none (by omega)] at hh; cases hh
    exact (hb.block g hlt).trans hh
theorem bldAt_bel {T e : TypeId} {B b : Nat} {p : Value} {bs : List Value} {w w' : World} (h : Lib.BuilderAt T e B b p bs w) (hb : Below w.heap.size w w') : Lib.BuilderAt T e B b p bs w' := by
  obtain ⟨hB, v, hv, hown, hne⟩ := h
  have hlt : b < w.heap.size := Lib.BuilderAt.lt ⟨hB, v, hv, hown, hne⟩
  exact ⟨hB, v, (hb.block b hlt).trans hv, own_bel hown hb, hne⟩
theorem bld_bel {T e : TypeId} {B b : Nat} {bs : List Value} {w w' : World} (h : Lib.IsBuilder T e B b bs w) (hb : Below w.heap.size w w') : Lib.IsBuilder T e B b bs w' :=
  h.imp (bldAt_bel · hb) (bldAt_bel · hb)
theorem bld_drewN {T e : TypeId} {B b : Nat} {bs : List Value} {w : World} (h : Lib.IsBuilder T e B b bs w) (n : Nat) : Lib.IsBuilder T e B b bs (w.drewN n) := h
theorem bld_new {T e : TypeId} {w : World} : Lib.IsBuilder T e w.heap.size w.heap.size [] (w.alloc (.cells #[.pointer none, .slice none 0 0] T)) :=
  .inl ⟨Nat.le_refl _, _, by show (w.heap.push _)[w.heap.size]? = _; simp, World.ownsRow_nil _ _ _ _, by simp [Value.ownBlock]⟩
/-- Below a mark of the outer call, behind a callee's own. -/
theorem bl_any {w a b : World} (h : Below w.heap.size w a) (k : Below a.heap.size a b) : Below w.heap.size w b := h.trans (k.mono h.size)
/-- A callee that says 'Below B' of a mark B that is at most the outer one's size. -/
theorem bl_mark {w a b : World} (h : Below w.heap.size w a) (k : Below w.heap.size a b) : Below w.heap.size w b := h.trans k
end Go.Proofs.YtcapbikelgcmmaaGreatDoor
