/- Small lemmas that the walks of this seat share: on bools, bytes of a string, worlds. -/
import Derived.WalkKit
import Derived.Lib.Hide
import Derived.Lib.Bytealg
namespace Go.Proofs.YtcapbikelgcmmaaGreatDoor
set_option linter.unusedVariables false
set_option linter.unusedSimpArgs false
open Go.RowKit

theorem bcl {b c : Bool} (h : b = true ↔ c = true) : b = c := Bool.eq_iff_iff.2 h
theorem ret_bool {b c : Bool} (h : b = c) : Ending.returned (.bool b) = .returned (.bool c) := by rw [h]
theorem ret_int {k : IntKind} {a b : Int} (h : a = b) : Ending.returned (.int k a) = .returned (.int k b) := by rw [h]
theorem ret_str {a b : ByteArray} (h : a = b) : Ending.returned (.string a) = .returned (.string b) := by rw [h]
/-- The byte at a place, as a number; 0 behind the end. -/
def bt (l : List UInt8) (i : Nat) : Int := ((l.getD i 0).toNat : Int)
theorem getElem_bt {s : ByteArray} {i : Nat} (h : i < s.size) : ((s[i]).toNat : Int) = bt s.data.toList i := by
  unfold bt; rw [List.getD_eq_getElem?_getD, List.getElem?_eq_getElem (by simpa using h)]; rfl
theorem bt_nonneg (l : List UInt8) (i : Nat) : 0 ≤ bt l i := by unfold bt; omega
theorem bt_le (l : List UInt8) (i : Nat) : bt l i ≤ 255 := by
  unfold bt; have := (l.getD i 0).toNat_lt; omega
theorem bt_get {l : List UInt8} {i : Nat} (h : i < l.length) : bt l i = (l[i].toNat : Int) := by
  unfold bt; rw [List.getD_eq_getElem?_getD, List.getElem?_eq_getElem h]; rfl
theorem bcell {W w1 : World} {B : Nat} (hb : Below B W w1) : (∀ b o, b < B → w1.cell? ⟨b, o, none⟩ = W.cell? ⟨b, o, none⟩) ∧ (∀ b o, b < B → w1.frozen? ⟨b, o, none⟩ = W.frozen? ⟨b, o, none⟩) :=
  ⟨fun b o h => hb.cell (p := ⟨b, o, none⟩) h, fun b o h => hb.frozen (p := ⟨b, o, none⟩) h⟩
theorem toUInt8_eq (c : Int) (k : UInt8) (h0 : 0 ≤ c) (h1 : c ≤ 255) : (k = c.toNat.toUInt8) ↔ c = k.toNat := by
  constructor
  · rintro rfl; simp; omega
  · intro h; apply UInt8.toNat_inj.1; simp [h]
/-- What strings.IndexByte answers. -/
def idxB (l : List UInt8) (c : Int) : Int := Lib.indexByte l c.toNat.toUInt8
theorem indexByte_mem (l : List UInt8) (c : UInt8) : 0 ≤ Lib.indexByte l c ↔ c ∈ l := by
  induction l with
  | nil => simp [Lib.indexByte]
  | cons a l ih =>
    have := Lib.indexByte_ge l c
    by_cases h : a = c
    · simp [Lib.indexByte, h]
    · have h' : c ≠ a := fun e => h e.symm
      simp only [Lib.indexByte, List.mem_cons, h', false_or, ← ih]
      simp only [beq_iff_eq, h, if_false]
      split <;> omega
theorem idxB_mem (l : List UInt8) (c : Int) (h0 : 0 ≤ c) (h1 : c ≤ 255) : 0 ≤ idxB l c ↔ ∃ u ∈ l, c = u.toNat := by
  unfold idxB; rw [indexByte_mem]
  constructor
  · intro h; exact ⟨_, h, (toUInt8_eq c _ h0 h1).1 rfl⟩
  · rintro ⟨u, hu, e⟩; rw [← (toUInt8_eq c u h0 h1).2 e]; exact hu
theorem idxB_nonneg_3 (a b d : UInt8) (c : Int) (h0 : 0 ≤ c) (h1 : c ≤ 255) : 0 ≤ idxB [a, b, d] c ↔ c = a.toNat ∨ c = b.toNat ∨ c = d.toNat := by
  rw [idxB_mem _ _ h0 h1]; simp
theorem indexByte3 (a b d : UInt8) (A B D : Int) (c : UInt8) (ha : (a.toNat : Int) = A) (hb : (b.toNat : Int) = B) (hd : (d.toNat : Int) = D) :
    0 ≤ Lib.indexByte [a, b, d] c ↔ (c.toNat : Int) = A ∨ (c.toNat : Int) = B ∨ (c.toNat : Int) = D := by
  subst ha hb hd
  rw [indexByte_mem]; simp only [List.mem_cons, List.not_mem_nil, or_false, ← UInt8.toNat_inj]; omega
end Go.Proofs.YtcapbikelgcmmaaGreatDoor
