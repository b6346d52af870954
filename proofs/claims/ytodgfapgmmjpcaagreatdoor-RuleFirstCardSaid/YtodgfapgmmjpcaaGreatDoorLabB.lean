/- The walks of label.Get, label.Without and of the reference's. -/
import Derived.Test.YtodgfapgmmjpcaaGreatDoorLabDef
import Derived.Test.YtodgfapgmmjpcaaGreatDoorCore
import Derived.Test.YtodgfapgmmjpcaaGreatDoorMem
import Derived.Test.YtodgfapgmmjpcaaGreatDoorShelfL
import Derived.BigQuiet
import Derived.Deep.QuietTactic
namespace Go.Proofs.YtodgfapgmmjpcaaGreatDoor
set_option linter.unusedVariables false
set_option linter.unusedSimpArgs false
open Go.RowKit
theorem Tryz.infoLabel : (Tryz.prog.info? 33).map (fun i => (i.zero, i.size, i.bytes)) = some (some (.agg #[.string ⟨#[]⟩, .string ⟨#[]⟩]), 2, 32) := by kernel_rfl
theorem blk_at {w : World} {o : Obj} {g : Nat} (h : g = w.heap.size) : (w.alloc o).heap[g]? = some o := by subst h; exact heap_alloc_new w o
theorem lab_at {w : World} {B : Nat} {A : Option Addr} {n : Nat} {L : List Lab} (h : IsRows labCell 2 w B A n L) {k : Nat} (hk : k < n) : ∃ (b off : Nat) (x y : ByteArray), A = some ⟨b, off, none⟩ ∧ b < B ∧ L[k]? = some (x, y) ∧ w.cell? ⟨b, off + k * 2, none⟩ = some (.string x) ∧ w.cell? ⟨b, off + k * 2 + 1, none⟩ = some (.string y) := by
  obtain ⟨b, off, rfl, hb, hc⟩ := h.2 (by omega)
  obtain ⟨⟨x, y⟩, hx⟩ : ∃ z, L[k]? = some z := ⟨_, List.getElem?_eq_getElem (by have := h.1; omega)⟩
  refine ⟨b, off, x, y, rfl, hb, hx, ?_, ?_⟩
  · exact hc k (x, y) 0 (.string x) hx rfl
  · exact hc k (x, y) 1 (.string y) hx rfl
theorem str_at {w : World} {B : Nat} {A : Option Addr} {n : Nat} {L : List ByteArray} (h : IsRows strCell 1 w B A n L) {k : Nat} (hk : k < n) : ∃ (b off : Nat) (x : ByteArray), A = some ⟨b, off, none⟩ ∧ b < B ∧ L[k]? = some x ∧ w.cell? ⟨b, off + k, none⟩ = some (.string x) := by
  obtain ⟨b, off, rfl, hb, hc⟩ := h.2 (by omega)
  obtain ⟨x, hx⟩ : ∃ z, L[k]? = some z := ⟨_, List.getElem?_eq_getElem (by have := h.1; omega)⟩
  exact ⟨b, off, x, rfl, hb, hx, by have := hc k x 0 (.string x) hx rfl; simpa using this⟩
theorem drop_at {α : Type} {L : List α} {k : Nat} {x : α} (h : L[k]? = some x) : L.drop k = x :: L.drop (k + 1) := by
  obtain ⟨h1, h2⟩ := List.getElem?_eq_some_iff.1 h
  rw [List.drop_eq_getElem_cons h1, h2]
theorem get_yes {L : List Lab} {k : Nat} {x y : ByteArray} {n : List UInt8} (h : L[k]? = some (x, y)) (e : (x.data.toList == n) = true) : getL (L.drop k) n = some (x, y) := by
  rw [drop_at h, getL, List.find?_cons]
  have : (nmL (x, y) == n) = true := e
  rw [this]
theorem get_no {L : List Lab} {k : Nat} {x y : ByteArray} {n : List UInt8} (h : L[k]? = some (x, y)) (e : (x.data.toList == n) = false) : getL (L.drop k) n = getL (L.drop (k + 1)) n := by
  rw [drop_at h, getL, List.find?_cons]
  have : (nmL (x, y) == n) = false := e
  rw [this, getL]
theorem get_end {L : List Lab} {k : Nat} {n : List UInt8} (h : L.length ≤ k) : getL (L.drop k) n = none := by
  rw [List.drop_of_length_le h]; rfl
theorem ret_get {r q : Option Lab} (h : r = q) : Ending.returned (.tuple #[.string (getV q), .bool q.isSome]) = .returned (.tuple #[.string (getV r), .bool r.isSome]) := by rw [h]
set_option maxRecDepth 100000 in
set_option maxHeartbeats 800000 in
theorem get_any (A : Option Addr) (n cap : Nat) (L : List Lab) (s : ByteArray) (w : World) (hl : IsRows labCell 2 w w.heap.size A n L) (hn : n ≤ 4611686018427387904) :
    Calls Tryz.prog 25 #[.slice A n cap, .string s] w fun e w' => e = .returned (.tuple #[.string (getV (getL L s.data.toList)), .bool (getL L s.data.toList).isSome]) ∧ Below w.heap.size w w' := by
  have hll := hl.1
  go_enter Tryz.func25, Tryz.ntmps25
  go_wp2_with fail
  go_loopw [10] (fun i wr => Below w.heap.size w wr ∧ ∃ k : Nat, k ≤ n ∧ i = .int .i64 k ∧ Hid (getL L s.data.toList = getL (L.drop k) s.data.toList)) (fun i _ => n - (intOf i).toNat)
  case atStart => exact ⟨Below.refl _ _, 0, by omega, rfl, Lib.hid rfl⟩
  case round =>
    obtain ⟨hbw, k, hk, rfl, HG⟩ := hrel
    by_cases hlt : k < n
    · have hdk : decide ((k : Int) < n) = true := decide_eq_true (by omega)
      have hk0 : (0 : Int) ≤ k := by omega
      have hk1 : (k : Int) < n := by omega
      obtain ⟨b, off, x, y, rfl, hgb, hx, e0, e1⟩ := lab_at (hl.below hbw) hlt
      have hgw := Nat.lt_of_lt_of_le hgb hbw.size
      cases hq : (x.toList == s.toList)
      · have HF := Lib.hid (HG.out.trans (get_no hx (by rw [ByteArray.toList_eq, ByteArray.toList_eq] at hq; exact hq)))
        go_wp2_with fail
        exact ⟨⟨bl_alloc hbw _, k + 1, by omega, rfl, HF⟩, by (simp only [intOf]; omega)⟩
      · have HF := Lib.hid (HG.out.trans (get_yes hx (by rw [ByteArray.toList_eq, ByteArray.toList_eq] at hq; exact hq)))
        go_wp2_with fail
        go_ret2
        exact ⟨ret_get HF.out, bl_alloc hbw _⟩
    · have hdk : decide ((k : Int) < n) = false := decide_eq_false (by omega)
      have HF := Lib.hid (HG.out.trans (get_end (by omega)))
      go_wp2_with fail
      go_ret2
      exact ⟨ret_get HF.out, hbw⟩
/-! ### without -/
def inN (names : List ByteArray) (x : ByteArray) : Bool := names.any fun n => n.data.toList == x.data.toList
theorem contains_any (A : Option Addr) (n cap : Nat) (names : List ByteArray) (x : ByteArray) (w : World) (B : Nat) (hl : IsRows strCell 1 w B A n names) (hn : n ≤ 4611686018427387904) :
    Calls Tryz.prog 54 #[.slice A n cap, .string x] w fun e w' => e = .returned (.bool (inN names x)) ∧ w = w' := by
  by_cases h0 : n = 0
  · subst h0
    have : names = [] := List.length_eq_zero_iff.1 hl.1
    subst this
    exact (Tryz.slices_Contains_string_empty A cap x w).mono fun e w' ⟨h1, h2⟩ => ⟨h1, h2.symm⟩
  · obtain ⟨b, off, rfl, hb, hc⟩ := hl.2 (by omega)
    refine (Tryz.slices_Contains_string b off n cap names x w (by have := hl.1; omega) (by omega) (fun j hj => ?_)).mono fun e w' ⟨h1, h2⟩ => ⟨?_, h2.symm⟩
    · have h4 := hc j names[j] 0 (.string names[j]) (List.getElem?_eq_getElem hj) rfl
      rw [List.getD_eq_getElem?_getD, List.getElem?_eq_getElem hj]
      simpa using h4
    · rw [h1, List.take_of_length_le (by have := hl.1; omega)]
      refine ret_bool (bcl ?_)
      rw [Lib.containsS_iff, inN, List.any_eq_true]
      constructor
      · intro h; exact ⟨x, h, beq_self_eq_true _⟩
      · rintro ⟨y, hy, e⟩
        rw [beq_iff_eq] at e
        rw [← bytes_ext y x e]; exact hy
theorem out_yes {L : List Lab} {k : Nat} {x y : ByteArray} {names : List ByteArray} (h : L[k]? = some (x, y)) (e : inN names x = false) : outL (L.take (k + 1)) names = outL (L.take k) names ++ [(x, y)] := by
  have e2 : (names.any fun n => n.data.toList == nmL (x, y)) = false := e
  rw [List.take_add_one, h, outL, outL, List.filter_append]
  simp only [Option.toList_some, List.filter_cons, List.filter_nil, e2]; rfl
theorem out_no {L : List Lab} {k : Nat} {x y : ByteArray} {names : List ByteArray} (h : L[k]? = some (x, y)) (e : inN names x = true) : outL (L.take (k + 1)) names = outL (L.take k) names := by
  have e2 : (names.any fun n => n.data.toList == nmL (x, y)) = true := e
  rw [List.take_add_one, h, outL, outL, List.filter_append]
  simp only [Option.toList_some, List.filter_cons, List.filter_nil, e2]; simp
theorem out_len (L : List Lab) (k : Nat) (names : List ByteArray) : (outL (L.take k) names).length ≤ k := Nat.le_trans (List.length_filter_le _ _) (List.length_take_le _ _)
set_option maxRecDepth 100000 in
set_option maxHeartbeats 1600000 in
theorem without_any (A : Option Addr) (n cap : Nat) (L : List Lab) (A2 : Option Addr) (n2 cap2 : Nat) (names : List ByteArray) (w : World) (hl : IsRows labCell 2 w w.heap.size A n L) (hn : n ≤ 1048576) (hm : IsRows strCell 1 w w.heap.size A2 n2 names) (hn2 : n2 ≤ 1048576) :
    Calls Tryz.prog 27 #[.slice A n cap, .slice A2 n2 cap2] w fun e w' => (∃ v, e = .returned v ∧ w'.ownsRow w.heap.size 33 2 v (outL L names).length ((outL L names).flatMap labCell)) ∧ Below w.heap.size w w' := by
  have hll := hl.1
  obtain ⟨i0, hi0, hz0, hz1, hz2⟩ := info_parts Tryz.infoLabel
  have hu : Tryz.prog.underlying 23 = some (.slice 33) := by kernel_rfl
  go_enter Tryz.func27, Tryz.ntmps27
  go_wp2_with fail
  go_loopw [5, 10] (fun o i wr => Below w.heap.size w wr ∧ ∃ k : Nat, k ≤ n ∧ i = .int .i64 k ∧ wr.ownsRow w.heap.size 33 2 o (outL (L.take k) names).length ((outL (L.take k) names).flatMap labCell)) (fun _ i _ => n - (intOf i).toNat)
  case atStart => exact ⟨Below.refl _ _, 0, by omega, rfl, World.ownsRow_nil _ _ _ _⟩
  case round =>
    obtain ⟨hbw, k, hk, rfl, hown⟩ := hrel
    have hwr := hbw.size
    by_cases hlt : k < n
    · have hdk : decide ((k : Int) < n) = true := decide_eq_true (by omega)
      have hk0 : (0 : Int) ≤ k := by omega
      have hk1 : (k : Int) < n := by omega
      obtain ⟨b, off, x, y, rfl, hgb, hx, e0, e1⟩ := lab_at (hl.below hbw) hlt
      have hol := out_len L k names
      have hgw := Nat.lt_of_lt_of_le hgb hbw.size
      have hcn := fun W (hb : Below w.heap.size w W) => contains_any A2 n2 cap2 names x W _ (hm.below hb) (by omega)
      cases hq : inN names x
      · have hoy := out_yes hx hq
        rw [hq] at hcn
        generalize (outL (L.take k) names) = O at *
        go_wp2_with (first
          | (go_at_call 54; refine (hcn _ (bl_alloc hbw _)).mono ?_; rintro e w1 ⟨rfl, rfl⟩)
          | (at_builtin; go_loud (refine wpList_append_lies _ (by rfl) _ _ _ (by rfl) w.heap.size 33 i0 _ 2 32 hu hi0 hz0 hz1 hz2 rfl (by omega) _ O.length (O.flatMap labCell) (by rfl) ((hown.alloc _).alloc _) ⟨wr.heap.size + 1, 0, none⟩ 1 1 [.string x, .string y] (by rfl) (by rfl) (World.news_of_block (blk_at (by simp))) (by simp [Value.oneCell']) (by omega) (by simp [maxLen]; omega) (by omega) (by simp; omega) (wr.heap.size + 2) (by simp) ?_); intro gg capg w4 hown4 hgrow hat hlt4))
        exact ⟨⟨(bl_alloc (bl_alloc hbw _) _).grown hgrow (by simp; omega) (fun j e => (hown.lt _ e).1), k + 1, by omega, rfl, by (rw [hoy, List.length_append, List.flatMap_append]; exact hown4)⟩, by (simp only [intOf]; omega)⟩
      · have hon := out_no hx hq
        rw [hq] at hcn
        go_wp2_with (first
          | (go_at_call 54; refine (hcn _ (bl_alloc hbw _)).mono ?_; rintro e w1 ⟨rfl, rfl⟩))
        exact ⟨⟨bl_alloc hbw _, k + 1, by omega, rfl, by (rw [hon]; exact hown.alloc _)⟩, by (simp only [intOf]; omega)⟩
    · have hdk : decide ((k : Int) < n) = false := decide_eq_false (by omega)
      obtain rfl : k = n := by omega
      rw [List.take_of_length_le (by omega)] at hown
      go_wp2_with fail
      go_ret
      exact ⟨⟨_, rfl, hown⟩, hbw⟩
end Go.Proofs.YtodgfapgmmjpcaaGreatDoor
