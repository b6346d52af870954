/- What the walks over strings, bytes and rows of strings share. -/
import Derived.Test.YtcapbikelgcmmaaGreatDoorProg
import Derived.Test.YtcapbikelgcmmaaGreatDoorAux
import Derived.Test.YtcapbikelgcmmaaGreatDoorAux2
import Derived.Test.YtcapbikelgcmmaaGreatDoorOpen
import Derived.Test.YtcapbikelgcmmaaGreatDoorOwn
import Derived.Lib.Builder
import Derived.Lib.AppendStr
import Derived.Lib.UnsafeStr
import Derived.Laws.IdiomStrings
import Derived.Laws.BytesArg
import Derived.Deep.AppendLies
import Derived.ProofKit
namespace Go.Proofs.YtcapbikelgcmmaaGreatDoor
set_option linter.unusedVariables false
set_option linter.unusedSimpArgs false
open Go.RowKit
theorem byteCells_app (a b : List UInt8) : Lib.byteCells (a ++ b) = Lib.byteCells a ++ Lib.byteCells b := by simp [Lib.byteCells]
theorem data_drop (s : ByteArray) (k : Nat) : (s.extract k s.size).data.toList = s.data.toList.drop k := by
  rw [ByteArray.data_extract, Array.toList_extract]; simp [List.extract, List.take_of_length_le]
theorem getD_at (s : ByteArray) (k : Nat) (h : k < s.size) : s.data.toList.getD k 0 = s[k] := by
  rw [List.getD_eq_getElem?_getD, List.getElem?_eq_getElem (by simpa using h)]; rfl
theorem size_mk (a : List UInt8) : (⟨a.toArray⟩ : ByteArray).size = a.length := rfl
theorem bytes_ext (s t : ByteArray) (h : s.data.toList = t.data.toList) : s = t := by
  cases s; cases t; congr; exact Array.toList_inj.1 h
theorem u8_is (x : UInt8) (c : UInt8) : (c == x) = ((x.toNat : Int) == (c.toNat : Int)) := by
  apply bcl
  rw [beq_iff_eq, beq_iff_eq]
  exact ⟨fun h => by rw [h], fun h => (UInt8.toNat_inj.1 (by omega)).symm⟩
def strCell (s : ByteArray) : List Value := [.string s]
theorem own_rws {α : Type} {f : α → List Value} {size : Nat} (hf : ∀ x, (f x).length = size) {w : World} {base : Nat} {e : TypeId} {v : Value} {n : Nat} {l : List α} (h : w.ownsRow base e size v n (l.flatMap f)) (hn : l.length = n) :
    ∃ (A : Option Addr) (cap : Nat), v = .slice A n cap ∧ IsRows f size w w.heap.size A n l := by
  obtain ⟨hl, ⟨rfl, rfl⟩ | ⟨g, cap, cur, rfl, hg, hh, hnc, hcm, hcs, htk⟩⟩ := h
  · exact ⟨none, 0, rfl, hn, fun h => absurd h (by omega)⟩
  · refine ⟨_, cap, rfl, hn, fun _ => ⟨g, 0, rfl, ?_, fun i x j u hx hu => ?_⟩⟩
    · rcases Nat.lt_or_ge g w.heap.size with h' | h'
      · exact h'
      · rw [Array.getElem?_eq_none (by omega)] at hh; cases hh
    · have h1 := flatMap_at f size hf l i x j u hx hu
      rw [← htk] at h1
      rw [cell_of_row w g (0 + (i * size + j)) cur e (0, 0) hh, Nat.zero_add, ← Array.getElem?_toList]
      rw [List.getElem?_take] at h1
      split at h1
      · exact h1
      · cases h1
theorem Tryz.infoString : (Tryz.prog.info? 9).map (fun i => (i.zero, i.size, i.bytes)) = some (some (.string ⟨#[]⟩), 1, 16) := by kernel_rfl
theorem Tryz.infoByte : (Tryz.prog.info? 5).map (fun i => (i.zero, i.size, i.bytes)) = some (some (.int .u8 0), 1, 1) := by kernel_rfl
theorem conv_own {w : World} {base : Nat} {v : Value} {acc : List UInt8} (h : w.ownsRow base 5 1 v acc.length (Lib.byteCells acc)) :
    (convert 59 9 v).run Tryz.prog w = .ok (.string ⟨acc.toArray⟩) w := by
  have h1 : Tryz.prog.underlying 59 = some (.slice 5) := by kernel_rfl
  have h2 : Tryz.prog.underlying 5 = some (.int .u8) := by kernel_rfl
  have h3 : Tryz.prog.underlying 9 = some .string := by kernel_rfl
  obtain ⟨hl, ⟨rfl, h0⟩ | ⟨g, cap, cur, rfl, hg, hh, hnc, hcm, hcs, htk⟩⟩ := h
  · have : acc = [] := List.length_eq_zero_iff.1 h0
    subst this
    exact run_convert_bytes_nil w 59 5 h1 h2 0 0 9 h3
  · refine run_convert_bytes_back w _ _ _ _ _ acc h1 h2 h3 fun j hj => ?_
    have h4 : (⟨g, 0, none⟩ : Addr).add j = ⟨g, j, none⟩ := by unfold Addr.add; split <;> simp_all
    rw [h4, cell_of_row w g j cur _ (0, 0) hh]
    have h5 : (cur.toList.take (acc.length * 1))[j]? = some (.int .u8 (acc[j].toNat : Int)) := by rw [htk]; simp [Lib.byteCells, hj]
    rw [List.getElem?_take] at h5
    split at h5
    · rw [← Array.getElem?_toList]; exact h5
    · cases h5
theorem own_drewN {base : Nat} {e : TypeId} {size : Nat} {v : Value} {n : Nat} {xs : List Value} {w : World} (h : w.ownsRow base e size v n xs) (k : Nat) : (w.drewN k).ownsRow base e size v n xs := h
end Go.Proofs.YtcapbikelgcmmaaGreatDoor
