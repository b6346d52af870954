/- The walks of label.Get, label.Without and of the reference's. -/
import Derived.Test.YtoplengednoldaaGreatDoorLabDef
import Derived.Test.YtoplengednoldaaGreatDoorCore
import Derived.Test.YtoplengednoldaaGreatDoorMem
import Derived.Test.YtoplengednoldaaGreatDoorShelfL
import Derived.BigQuiet
import Derived.Deep.QuietTactic
namespace Go.Proofs.YtoplengednoldaaGreatDoor
set_option linter.unusedVariables false
set_option linter.unusedSimpArgs false
open Go.RowKit
theorem Tryz.infoLabel : (Tryz.prog.info? 118).map (fun i => (i.zero, i.size, i.bytes)) = some (some (.agg #[.string ⟨#[]⟩, .string ⟨#[]⟩]), 2, 32) := by kernel_rfl
theorem blk_at {w : World} {o : Obj} {g : Nat} (h : g = w.heap.size) : (w.alloc o).heap[g]? = some o := by subst h; exact heap_alloc_new w o
theorem lab_at {w : World} {B : Nat} {A : Option Addr} {n : Nat} {L : List Lab} (h : IsRows labCell 2 w B A n L) {k : Nat} (hk : k < n) : ∃ (b off : Nat) (x y : ByteArray), A = some ⟨b, off, none⟩ ∧ b < B ∧ L[k]? = some (x, y) ∧ w.cell? ⟨b, off + k * 2, none⟩ = some (.string x) ∧ w.cell? ⟨b, off + k * 2 + 1, none⟩ = some (.string y) := by
  obtain ⟨b, off, rfl, hb, hc⟩ := h.2 (by omega)
  obtain ⟨⟨x, y⟩, hx⟩ : ∃ z, L[k]? = some z := ⟨_, List.getElem?_eq_getElem (by have := h.1; omega)⟩
  refine ⟨b, off, x, y, rfl, hb, hx, ?_, ?_⟩
  · exact hc k (x, y) 0 (.string x) hx rfl
  · exact hc k (x, y) 1 (.string y) hx rfl
theorem str_at {w : World} {B : Nat} {A : Option Addr} {n : Nat} {L : List ByteArray} (h : IsRows strCell 1 w B A n L) {k : Nat} (hk : k < n) : ∃ (b off : Nat) (x : ByteArray), A = some ⟨b, off, none⟩ ∧ b < B ∧ L[k]? = some x ∧ w.cell? ⟨b, off + k, none⟩ = some (.string x) := by
  obtain ⟨b, off, rfl, hb, hc⟩ := h.2 (by omega)
  obtain ⟨x, hx⟩ : ∃ z, L[k]? = some z := ⟨_, List.getElem?_eq_getElem (by have := h.1; omega)⟩
  exact ⟨b, off, x, rfl, hb, hx, by have := hc k x 0 (.string x) hx rfl; simpa using this⟩
theorem drop_at {α : Type} {L : List α} {k : Nat} {x : α} (h : L[k]? = some x) : L.drop k = x :: L.drop (k + 1) := by
  obtain ⟨h1, h2⟩ := List.getElem?_eq_some_iff.1 h
  rw [List.drop_eq_getElem_cons h1, h2]
theorem get_yes {L : List Lab} {k : Nat} {x y : ByteArray} {n : List UInt8} (h : L[k]? = some (x, y)) (e : (x.data.toList == n) = true) : getL (L.drop k) n = some (x, y) := by
  rw [drop_at h, getL, List.find?_cons]
  have : (nmL (x, y) == n) = true := e
  rw [this]
theorem get_no {L : List Lab} {k : Nat} {x y : ByteArray} {n : List UInt8} (h : L[k]? = some (x, y)) (e : (x.data.toList == n) = false) : getL (L.drop k) n = getL (L.drop (k + 1)) n := by
  rw [drop_at h, getL, List.find?_cons]
  have : (nmL (x, y) == n) = false := e
  rw [this, getL]
theorem get_end {L : List Lab} {k : Nat} {n : List UInt8} (h : L.length ≤ k) : getL (L.drop k) n = none := by
  rw [List.drop_of_length_le h]; rfl
theorem ret_get {r q : Option Lab} (h : r = q) : Ending.returned (.tuple #[.string (getV q), .bool q.isSome]) = .returned (.tuple #[.string (getV r), .bool r.isSome]) := by rw [h]
set_option maxRecDepth 100000 in
set_option maxHeartbeats 800000 in
theorem get_any (A : Option Addr) (n cap : Nat) (L : List Lab) (s : ByteArray) (w : World) (hl : IsRows labCell 2 w w.heap.size A n L) (hn : n ≤ 4611686018427387904) :
    Calls Tryz.prog 89 #[.slice A n cap, .string s] w fun e w' => e = .returned (.tuple #[.string (getV (getL L s.data.toList)), .bool (getL L s.data.toList).isSome]) ∧ Below w.heap.size w w' := by
  have hll := hl.1
  go_enter Tryz.func89, Tryz.ntmps89
  go_wp2_with fail
  go_loopw [10] (fun i wr => Below w.heap.size w wr ∧ ∃ k : Nat, k ≤ n ∧ i = .int .i64 k ∧ Hid (getL L s.data.toList = getL (L.drop k) s.data.toList)) (fun i _ => n - (intOf i).toNat)
  case atStart => exact ⟨Below.refl _ _, 0, by omega, rfl, Lib.hid rfl⟩
  case round =>
    obtain ⟨hbw, k, hk, rfl, HG⟩ := hrel
    by_cases hlt : k < n
    · have hdk : decide ((k : Int) < n) = true := decide_eq_true (by omega)
      have hk0 : (0 : Int) ≤ k := by omega
      have hk1 : (k : Int) < n := by omega
      obtain ⟨b, off, x, y, rfl, hgb, hx, e0, e1⟩ := lab_at (hl.below hbw) hlt
      have hgw := Nat.lt_of_lt_of_le hgb hbw.size
      cases hq : (x.toList == s.toList)
      · have HF := Lib.hid (HG.out.trans (get_no hx (by rw [ByteArray.toList_eq, ByteArray.toList_eq] at hq; exact hq)))
        go_wp2_with fail
        exact ⟨⟨bl_alloc hbw _, k + 1, by omega, rfl, HF⟩, by (simp only [intOf]; omega)⟩
      · have HF := Lib.hid (HG.out.trans (get_yes hx (by rw [ByteArray.toList_eq, ByteArray.toList_eq] at hq; exact hq)))
        go_wp2_with fail
        go_ret2
        exact ⟨ret_get HF.out, bl_alloc hbw _⟩
    · have hdk : decide ((k : Int) < n) = false := decide_eq_false (by omega)
      have HF := Lib.hid (HG.out.trans (get_end (by omega)))
      go_wp2_with fail
      go_ret2
      exact ⟨ret_get HF.out, hbw⟩
set_option maxRecDepth 100000 in
set_option maxHeartbeats 800000 in
theorem refGet_any (A : Option Addr) (n cap : Nat) (L : List Lab) (s : ByteArray) (w : World) (hl : IsRows labCell 2 w w.heap.size A n L) (hn : n ≤ 4611686018427387904) :
    Calls Tryz.prog 123 #[.slice A n cap, .string s] w fun e w' => e = .returned (.tuple #[.string (getV (getL L s.data.toList)), .bool (getL L s.data.toList).isSome]) ∧ w = w' := by
  have hll := hl.1
  go_enter Tryz.func123, Tryz.ntmps123
  go_wp2_with fail
  go_loop [6] (fun i => ∃ k : Nat, k ≤ n ∧ i = .int .i64 k ∧ Hid (getL L s.data.toList = getL (L.drop k) s.data.toList)) (fun i => n - (intOf i).toNat)
  case atStart => exact ⟨0, by omega, rfl, Lib.hid rfl⟩
  case round =>
    obtain ⟨k, hk, rfl, HG⟩ := hrel
    by_cases hlt : k < n
    · have hdk : decide ((k : Int) < n) = true := decide_eq_true (by omega)
      have hk0 : (0 : Int) ≤ k := by omega
      have hk1 : (k : Int) < n := by omega
      obtain ⟨b, off, x, y, rfl, hgb, hx, e0, e1⟩ := lab_at hl hlt
      cases hq : (x.toList == s.toList)
      · have HF := Lib.hid (HG.out.trans (get_no hx (by rw [ByteArray.toList_eq, ByteArray.toList_eq] at hq; exact hq)))
        go_wp2_with fail
        exact ⟨⟨k + 1, by omega, rfl, HF⟩, by (simp only [intOf]; omega)⟩
      · have HF := Lib.hid (HG.out.trans (get_yes hx (by rw [ByteArray.toList_eq, ByteArray.toList_eq] at hq; exact hq)))
        go_wp2_with fail
        go_ret2
        exact ⟨ret_get HF.out, rfl⟩
    · have hdk : decide ((k : Int) < n) = false := decide_eq_false (by omega)
      have HF := Lib.hid (HG.out.trans (get_end (by omega)))
      go_wp2_with fail
      go_ret2
      exact ⟨ret_get HF.out, rfl⟩
/-! ### without -/
def inN (names : List ByteArray) (x : ByteArray) : Bool := names.any fun n => n.data.toList == x.data.toList
theorem out_yes {L : List Lab} {k : Nat} {x y : ByteArray} {names : List ByteArray} (h : L[k]? = some (x, y)) (e : inN names x = false) : outL (L.take (k + 1)) names = outL (L.take k) names ++ [(x, y)] := by
  have e2 : (names.any fun n => n.data.toList == nmL (x, y)) = false := e
  rw [List.take_add_one, h, outL, outL, List.filter_append]
  simp only [Option.toList_some, List.filter_cons, List.filter_nil, e2]; rfl
theorem out_no {L : List Lab} {k : Nat} {x y : ByteArray} {names : List ByteArray} (h : L[k]? = some (x, y)) (e : inN names x = true) : outL (L.take (k + 1)) names = outL (L.take k) names := by
  have e2 : (names.any fun n => n.data.toList == nmL (x, y)) = true := e
  rw [List.take_add_one, h, outL, outL, List.filter_append]
  simp only [Option.toList_some, List.filter_cons, List.filter_nil, e2]; simp
theorem out_len (L : List Lab) (k : Nat) (names : List ByteArray) : (outL (L.take k) names).length ≤ k := Nat.le_trans (List.length_filter_le _ _) (List.length_take_le _ _)
end Go.Proofs.YtoplengednoldaaGreatDoor
