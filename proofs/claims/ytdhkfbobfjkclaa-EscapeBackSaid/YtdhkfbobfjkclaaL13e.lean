/- The walk of EscapeBack. -/
import Derived.Test.YtdhkfbobfjkclaaL13d
import Derived.BigQuiet
namespace Go.Proofs.Ytdhkfbobfjkclaa
open Go.RowKit
set_option maxRecDepth 100000 in
set_option maxHeartbeats 3200000 in
theorem back13_any (q : Int) (d : Bool) (a b : ByteArray) (m : Int) (w : World) (hm : G0 m w) (hq : 0 ≤ q ∧ q ≤ 255) (hs : a.size ≤ 9223372036854775807) (hs2 : b.size ≤ 9223372036854775807) :
    Calls Try.prog 13 #[.int .u8 q, .bool d, .string a, .string b] w fun e w' => e = .returned (.bool true) ∧ Below w.heap.size w w' := by
  by_cases h100 : 100 < a.size
  · have hd100 : decide ((100 : Int) < a.size) = true := decide_eq_true (by omega)
    go_enter Try.func13, Try.ntmps13
    go_wp2_with (go_at_call 29; refine (known13_any m _ hm).mono ?_; rintro e w1 ⟨rfl, hb1⟩)
    go_ret
    exact ⟨rfl, hb1⟩
  have hd100 : decide ((100 : Int) < a.size) = false := decide_eq_false (by omega)
  by_cases h100b : 100 < b.size
  · have hd100b : decide ((100 : Int) < b.size) = true := decide_eq_true (by omega)
    go_enter Try.func13, Try.ntmps13
    go_wp2_with (go_at_call 29; refine (known13_any m _ hm).mono ?_; rintro e w1 ⟨rfl, hb1⟩)
    go_ret
    exact ⟨rfl, hb1⟩
  have hd100b : decide ((100 : Int) < b.size) = false := decide_eq_false (by omega)
  have hsa : a.size ≤ 1048576 := by omega
  have hsb : b.size ≤ 1048576 := by omega
  cases d
  · have hxl := escTo_len (1 + q % 4) 0 a.data.toList a.data.toList.length
    have hal : a.data.toList.length = a.size := by simp
    have hxs : (⟨(escB (1 + q % 4) 0 a.data.toList).toArray⟩ : ByteArray).size ≤ 1048576 := by (show (escTo (1 + q % 4) 0 a.data.toList a.data.toList.length).length ≤ 1048576; omega)
    have hxc : (escB (1 + q % 4) 0 a.data.toList).length ≤ 1048576 := hxs
    have f1 : undoS (escB (1 + q % 4) 0 a.data.toList) = a := by (unfold undoS; rw [undo_escB])
    have f2 : undoB (escB (1 + q % 4) 0 a.data.toList) = some a.data.toList := undo_escB _ _ _
    have f3 : (⟨(backB (1 + q % 4) 0 (escB (1 + q % 4) 0 a.data.toList)).toArray⟩ : ByteArray) = a := bytes_ext _ _ (back_escB _ _ _)
    have f4 : badB (1 + q % 4) 0 (escB (1 + q % 4) 0 a.data.toList) = -1 := esc_bad _ _ (by omega) (by omega) _
    have f5 : decide (a.size ≤ (escB (1 + q % 4) 0 a.data.toList).length) = true := decide_eq_true (by have := esc_len (1 + q % 4) 0 a.data.toList; omega)
    have f6 : (escB (1 + q % 4) 0 a.data.toList == escB (1 + q % 4) 0 b.data.toList) = (a.toList == b.toList) := by
      apply bcl
      rw [beq_iff_eq, beq_iff_eq, ByteArray.toList_eq, ByteArray.toList_eq, esc_inj]
    clear hxl hal
    cases f7 : (a.toList == b.toList)
    all_goals
      rw [f7] at f6
      go_enter Try.func13, Try.ntmps13
      go_wp2_with (first
        | (go_at_call 29; refine (known13_any m _ hm).mono ?_; rintro e w1 ⟨rfl, hb1⟩; have hg1 := hm.bel hb1)
        | (go_at_call 30; refine (escape_any _ _ _ _ (by with_reducible assumption)).mono ?_; rintro e w2 ⟨rfl, hb2⟩; have hg2 := G0.bel (m := m) (by assumption) hb2)
        | (go_at_call 35; refine (undo_any ⟨(escB (1 + q % 4) 0 a.data.toList).toArray⟩ m _ hxs (by assumption)).mono ?_; rintro e w4 ⟨rfl, hb4⟩; rw [show (⟨(escB (1 + q % 4) 0 a.data.toList).toArray⟩ : ByteArray).data.toList = escB (1 + q % 4) 0 a.data.toList from rfl, f1, f2]; have hg4 := G0.bel (m := m) (by assumption) hb4)
        | (go_at_call 32; refine (back_any _ _ ⟨(escB (1 + q % 4) 0 a.data.toList).toArray⟩ m _ hxs (by assumption)).mono ?_; rintro e w5 ⟨rfl, hb5⟩; rw [show (⟨(escB (1 + q % 4) 0 a.data.toList).toArray⟩ : ByteArray).data.toList = escB (1 + q % 4) 0 a.data.toList from rfl, f3]; have hg5 := G0.bel (m := m) (by assumption) hb5)
        | (go_at_call 19; refine (bad_any _ _ ⟨(escB (1 + q % 4) 0 a.data.toList).toArray⟩ _ (Nat.le_trans hxs (by decide))).mono ?_; rintro e w6 ⟨rfl, hb6⟩; rw [show (⟨(escB (1 + q % 4) 0 a.data.toList).toArray⟩ : ByteArray).data.toList = escB (1 + q % 4) 0 a.data.toList from rfl, f4]))
      go_ret
      exact ⟨by first | rfl | exact ret_bool f5, by repeat (first | exact Below.refl _ _ | assumption | refine Below.drew ?_ | refine bl_drewN ?_ _ | refine bl_alloc ?_ _ | refine bl_trans ?_ (by assumption))⟩
  · have hxl := escTo_len (1 + q % 4) 1 a.data.toList a.data.toList.length
    have hal : a.data.toList.length = a.size := by simp
    have hxs : (⟨(escB (1 + q % 4) 1 a.data.toList).toArray⟩ : ByteArray).size ≤ 1048576 := by (show (escTo (1 + q % 4) 1 a.data.toList a.data.toList.length).length ≤ 1048576; omega)
    have hxc : (escB (1 + q % 4) 1 a.data.toList).length ≤ 1048576 := hxs
    have f1 : undoS (escB (1 + q % 4) 1 a.data.toList) = a := by (unfold undoS; rw [undo_escB])
    have f2 : undoB (escB (1 + q % 4) 1 a.data.toList) = some a.data.toList := undo_escB _ _ _
    have f3 : (⟨(backB (1 + q % 4) 1 (escB (1 + q % 4) 1 a.data.toList)).toArray⟩ : ByteArray) = a := bytes_ext _ _ (back_escB _ _ _)
    have f4 : badB (1 + q % 4) 1 (escB (1 + q % 4) 1 a.data.toList) = -1 := esc_bad _ _ (by omega) (by omega) _
    have f5 : decide (a.size ≤ (escB (1 + q % 4) 1 a.data.toList).length) = true := decide_eq_true (by have := esc_len (1 + q % 4) 1 a.data.toList; omega)
    have f6 : (escB (1 + q % 4) 1 a.data.toList == escB (1 + q % 4) 1 b.data.toList) = (a.toList == b.toList) := by
      apply bcl
      rw [beq_iff_eq, beq_iff_eq, ByteArray.toList_eq, ByteArray.toList_eq, esc_inj]
    clear hxl hal
    cases f7 : (a.toList == b.toList)
    all_goals
      rw [f7] at f6
      go_enter Try.func13, Try.ntmps13
      go_wp2_with (first
        | (go_at_call 29; refine (known13_any m _ hm).mono ?_; rintro e w1 ⟨rfl, hb1⟩; have hg1 := hm.bel hb1)
        | (go_at_call 30; refine (escape_any _ _ _ _ (by with_reducible assumption)).mono ?_; rintro e w2 ⟨rfl, hb2⟩; have hg2 := G0.bel (m := m) (by assumption) hb2)
        | (go_at_call 35; refine (undo_any ⟨(escB (1 + q % 4) 1 a.data.toList).toArray⟩ m _ hxs (by assumption)).mono ?_; rintro e w4 ⟨rfl, hb4⟩; rw [show (⟨(escB (1 + q % 4) 1 a.data.toList).toArray⟩ : ByteArray).data.toList = escB (1 + q % 4) 1 a.data.toList from rfl, f1, f2]; have hg4 := G0.bel (m := m) (by assumption) hb4)
        | (go_at_call 32; refine (back_any _ _ ⟨(escB (1 + q % 4) 1 a.data.toList).toArray⟩ m _ hxs (by assumption)).mono ?_; rintro e w5 ⟨rfl, hb5⟩; rw [show (⟨(escB (1 + q % 4) 1 a.data.toList).toArray⟩ : ByteArray).data.toList = escB (1 + q % 4) 1 a.data.toList from rfl, f3]; have hg5 := G0.bel (m := m) (by assumption) hb5)
        | (go_at_call 19; refine (bad_any _ _ ⟨(escB (1 + q % 4) 1 a.data.toList).toArray⟩ _ (Nat.le_trans hxs (by decide))).mono ?_; rintro e w6 ⟨rfl, hb6⟩; rw [show (⟨(escB (1 + q % 4) 1 a.data.toList).toArray⟩ : ByteArray).data.toList = escB (1 + q % 4) 1 a.data.toList from rfl, f4]))
      go_ret
      exact ⟨by first | rfl | exact ret_bool f5, by repeat (first | exact Below.refl _ _ | assumption | refine Below.drew ?_ | refine bl_drewN ?_ _ | refine bl_alloc ?_ _ | refine bl_trans ?_ (by assumption))⟩
end Go.Proofs.Ytdhkfbobfjkclaa
