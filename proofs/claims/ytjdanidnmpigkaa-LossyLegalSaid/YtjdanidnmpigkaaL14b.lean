/- The walk of LossyLegal. -/
import Derived.Test.YtjdanidnmpigkaaL14a
import Derived.BigQuiet
namespace Go.Proofs.Ytjdanidnmpigkaa
open Go.RowKit
set_option maxRecDepth 100000 in
set_option maxHeartbeats 3200000 in
theorem legal14_any (q : Int) (d : Bool) (s : ByteArray) (w : World) (hq : 0 ≤ q ∧ q ≤ 255) (hs : s.size ≤ 9223372036854775807) :
    Calls Try.prog 6 #[.int .u8 q, .bool d, .string s] w fun e w' => e = .returned (.bool true) ∧ Below w.heap.size w w' := by
  by_cases h200 : 200 < s.size
  · have hd200 : decide ((200 : Int) < s.size) = true := decide_eq_true (by omega)
    go_enter Try.func6, Try.ntmps6
    go_wp2_with (go_at_call 7; refine (known14_any _).mono ?_; rintro e w1 ⟨rfl, hb1⟩)
    go_ret
    exact ⟨rfl, hb1⟩
  have hd200 : decide ((200 : Int) < s.size) = false := decide_eq_false (by omega)
  have hsa : s.size ≤ 1048576 := by omega
  cases d
  · have hll : (lossB (1 + q % 4) 0 s.data.toList).length = s.size := by (rw [lossB_len]; simp)
    have hxs : (⟨(lossB (1 + q % 4) 0 s.data.toList).toArray⟩ : ByteArray).size ≤ 1048576 := by (show (lossB (1 + q % 4) 0 s.data.toList).length ≤ 1048576; omega)
    have f1 : badB (1 + q % 4) 0 (lossB (1 + q % 4) 0 s.data.toList) = -1 := loss_bad _ _ (by omega) (by omega) _
    have f2 : lossB (1 + q % 4) 0 (lossB (1 + q % 4) 0 s.data.toList) = lossB (1 + q % 4) 0 s.data.toList := loss_twice _ _ (by omega) (by omega) _
    have f3 := loss_or (1 + q % 4) 0 s.data.toList
    cases f4 : (lossB (1 + q % 4) 0 s.data.toList == s.toList)
    all_goals
      have f5 : (lossB (1 + q % 4) 0 s.data.toList == s.toList) = false → decide (0 ≤ badB (1 + q % 4) 0 s.data.toList) = true := fun h => decide_eq_true (f3.resolve_left (by (rw [ByteArray.toList_eq, beq_eq_false_iff_ne] at h; exact h)))
      (try have f6 := f5 f4)
      clear f3 f5
      go_enter Try.func6, Try.ntmps6
      go_wp2_with (first
        | (go_at_call 7; refine (known14_any _).mono ?_; rintro e w1 ⟨rfl, hb1⟩)
        | (go_at_call 11; with_reducible refine (name_any _ _ s _ hsa).mono ?_; rintro e w2 ⟨rfl, hb2⟩)
        | (go_at_call 11; with_reducible refine (name_any _ _ ⟨(lossB (1 + q % 4) 0 s.data.toList).toArray⟩ _ hxs).mono ?_; rintro e w5 ⟨rfl, hb5⟩; rw [show (⟨(lossB (1 + q % 4) 0 s.data.toList).toArray⟩ : ByteArray).data.toList = lossB (1 + q % 4) 0 s.data.toList from rfl, f2])
        | (go_at_call 13; with_reducible refine (bad_any _ _ s _ (Nat.le_trans hsa (by decide))).mono ?_; rintro e w6 ⟨rfl, hb6⟩)
        | (go_at_call 13; with_reducible refine (bad_any _ _ ⟨(lossB (1 + q % 4) 0 s.data.toList).toArray⟩ _ (Nat.le_trans hxs (by decide))).mono ?_; rintro e w6 ⟨rfl, hb6⟩; rw [show (⟨(lossB (1 + q % 4) 0 s.data.toList).toArray⟩ : ByteArray).data.toList = lossB (1 + q % 4) 0 s.data.toList from rfl, f1]))
      go_ret
      exact ⟨by first | rfl | exact ret_bool f6 | exact ret_bool (by simp [*]), by repeat (first | exact Below.refl _ _ | assumption | refine Below.drew ?_ | refine bl_drewN ?_ _ | refine bl_alloc ?_ _ | refine bl_trans ?_ (by assumption))⟩
  · have hll : (lossB (1 + q % 4) 1 s.data.toList).length = s.size := by (rw [lossB_len]; simp)
    have hxs : (⟨(lossB (1 + q % 4) 1 s.data.toList).toArray⟩ : ByteArray).size ≤ 1048576 := by (show (lossB (1 + q % 4) 1 s.data.toList).length ≤ 1048576; omega)
    have f1 : badB (1 + q % 4) 1 (lossB (1 + q % 4) 1 s.data.toList) = -1 := loss_bad _ _ (by omega) (by omega) _
    have f2 : lossB (1 + q % 4) 1 (lossB (1 + q % 4) 1 s.data.toList) = lossB (1 + q % 4) 1 s.data.toList := loss_twice _ _ (by omega) (by omega) _
    have f3 := loss_or (1 + q % 4) 1 s.data.toList
    cases f4 : (lossB (1 + q % 4) 1 s.data.toList == s.toList)
    all_goals
      have f5 : (lossB (1 + q % 4) 1 s.data.toList == s.toList) = false → decide (0 ≤ badB (1 + q % 4) 1 s.data.toList) = true := fun h => decide_eq_true (f3.resolve_left (by (rw [ByteArray.toList_eq, beq_eq_false_iff_ne] at h; exact h)))
      (try have f6 := f5 f4)
      clear f3 f5
      go_enter Try.func6, Try.ntmps6
      go_wp2_with (first
        | (go_at_call 7; refine (known14_any _).mono ?_; rintro e w1 ⟨rfl, hb1⟩)
        | (go_at_call 11; with_reducible refine (name_any _ _ s _ hsa).mono ?_; rintro e w2 ⟨rfl, hb2⟩)
        | (go_at_call 11; with_reducible refine (name_any _ _ ⟨(lossB (1 + q % 4) 1 s.data.toList).toArray⟩ _ hxs).mono ?_; rintro e w5 ⟨rfl, hb5⟩; rw [show (⟨(lossB (1 + q % 4) 1 s.data.toList).toArray⟩ : ByteArray).data.toList = lossB (1 + q % 4) 1 s.data.toList from rfl, f2])
        | (go_at_call 13; with_reducible refine (bad_any _ _ s _ (Nat.le_trans hsa (by decide))).mono ?_; rintro e w6 ⟨rfl, hb6⟩)
        | (go_at_call 13; with_reducible refine (bad_any _ _ ⟨(lossB (1 + q % 4) 1 s.data.toList).toArray⟩ _ (Nat.le_trans hxs (by decide))).mono ?_; rintro e w6 ⟨rfl, hb6⟩; rw [show (⟨(lossB (1 + q % 4) 1 s.data.toList).toArray⟩ : ByteArray).data.toList = lossB (1 + q % 4) 1 s.data.toList from rfl, f1]))
      go_ret
      exact ⟨by first | rfl | exact ret_bool f6 | exact ret_bool (by simp [*]), by repeat (first | exact Below.refl _ _ | assumption | refine Below.drew ?_ | refine bl_drewN ?_ _ | refine bl_alloc ?_ _ | refine bl_trans ?_ (by assumption))⟩
end Go.Proofs.Ytjdanidnmpigkaa
