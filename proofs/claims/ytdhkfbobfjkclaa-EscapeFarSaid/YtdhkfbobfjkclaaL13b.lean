/- The walk of EscapeFar. -/
import Derived.Test.YtdhkfbobfjkclaaL13a
import Derived.BigQuiet
namespace Go.Proofs.Ytdhkfbobfjkclaa
open Go.RowKit
theorem both_forms (x y : List UInt8) (b : Bool) (h : (x == y) = b) : (x == y) = b ∧ (x != y) = !b := ⟨h, by rw [bne, h]⟩
set_option maxRecDepth 100000 in
set_option maxHeartbeats 3200000 in
theorem far13_any (a : Int) (d : Bool) (s : ByteArray) (m : Int) (w : World) (hm : G0 m w) (ha : 0 ≤ a ∧ a ≤ 255) (hs : s.size ≤ 9223372036854775807) :
    Calls Try.prog 12 #[.int .u8 a, .bool d, .string s] w fun e w' => e = .returned (.bool true) ∧ Below w.heap.size w w' := by
  by_cases h100 : 100 < s.size
  · have hd100 : decide ((100 : Int) < s.size) = true := decide_eq_true (by omega)
    go_enter Try.func12, Try.ntmps12
    go_wp2_with (go_at_call 29; refine (known13_any m _ hm).mono ?_; rintro e w1 ⟨rfl, hb1⟩)
    go_ret
    exact ⟨rfl, hb1⟩
  have hd100 : decide ((100 : Int) < s.size) = false := decide_eq_false (by omega)
  cases d
  · cases hu : undoB s.data.toList with
    | none =>
      have hbk : (⟨(backB (1 + a % 4) 0 s.data.toList).toArray⟩ : ByteArray) = s := bytes_ext _ _ (by unfold backB; rw [hu])
      have hus : undoS s.data.toList = ⟨#[]⟩ := by unfold undoS; rw [hu]
      go_enter Try.func12, Try.ntmps12
      go_wp2_with (first
        | (go_at_call 29; refine (known13_any m _ hm).mono ?_; rintro e w1 ⟨rfl, hb1⟩; have hg1 := hm.bel hb1)
        | (go_at_call 32; refine (back_any _ _ _ m _ (by omega) hg1).mono ?_; rintro e w2 ⟨rfl, hb2⟩; rw [hbk]; have hg2 := hg1.bel hb2)
        | (go_at_call 35; refine (undo_any _ m _ (by omega) hg2).mono ?_; rintro e w3 ⟨rfl, hb3⟩; rw [hu, hus]; have hg3 := hg2.bel hb3))
      go_ret
      exact ⟨rfl, by repeat (first | exact Below.refl _ _ | assumption | refine Below.drew ?_ | refine bl_drewN ?_ _ | refine bl_alloc ?_ _ | refine bl_trans ?_ (by assumption))⟩
    | some u =>
      have hus : undoS s.data.toList = ⟨u.toArray⟩ := by unfold undoS; rw [hu]
      have hul := undoB_len _ _ _ (Nat.le_refl _) hu
      have hsl : s.data.toList.length = s.size := by simp
      have husz : (⟨u.toArray⟩ : ByteArray).size = u.length := rfl
      by_cases he : escB (1 + a % 4) 0 u = s.data.toList
      · have hbk : (⟨(backB (1 + a % 4) 0 s.data.toList).toArray⟩ : ByteArray) = ⟨u.toArray⟩ := bytes_ext _ _ (by unfold backB; rw [hu]; exact if_pos he)
        have hes : (⟨(escB (1 + a % 4) 0 u).toArray⟩ : ByteArray) = s := bytes_ext _ _ he
        cases hq : (u == s.toList)
        · obtain ⟨_, hq2⟩ := both_forms _ _ _ hq
          clear he
          go_enter Try.func12, Try.ntmps12
          go_wp2_with (first
            | (go_at_call 29; refine (known13_any m _ hm).mono ?_; rintro e w1 ⟨rfl, hb1⟩; have hg1 := hm.bel hb1)
            | (go_at_call 32; refine (back_any _ _ _ m _ (by omega) hg1).mono ?_; rintro e w2 ⟨rfl, hb2⟩; rw [hbk]; have hg2 := hg1.bel hb2)
            | (go_at_call 35; refine (undo_any _ m _ (by omega) hg2).mono ?_; rintro e w3 ⟨rfl, hb3⟩; rw [hu, hus]; have hg3 := hg2.bel hb3)
            | (go_at_call 30; refine (escape_any _ _ _ _ (by omega)).mono ?_; rintro e w4 ⟨rfl, hb4⟩; rw [hes]))
          go_ret
          exact ⟨rfl, by repeat (first | exact Below.refl _ _ | assumption | refine Below.drew ?_ | refine bl_drewN ?_ _ | refine bl_alloc ?_ _ | refine bl_trans ?_ (by assumption))⟩
        · obtain ⟨_, hq2⟩ := both_forms _ _ _ hq
          clear he
          go_enter Try.func12, Try.ntmps12
          go_wp2_with (first
            | (go_at_call 29; refine (known13_any m _ hm).mono ?_; rintro e w1 ⟨rfl, hb1⟩; have hg1 := hm.bel hb1)
            | (go_at_call 32; refine (back_any _ _ _ m _ (by omega) hg1).mono ?_; rintro e w2 ⟨rfl, hb2⟩; rw [hbk]; have hg2 := hg1.bel hb2)
            | (go_at_call 35; refine (undo_any _ m _ (by omega) hg2).mono ?_; rintro e w3 ⟨rfl, hb3⟩; rw [hu, hus]; have hg3 := hg2.bel hb3)
            | (go_at_call 30; refine (escape_any _ _ _ _ (by omega)).mono ?_; rintro e w4 ⟨rfl, hb4⟩; rw [hes]))
          go_ret
          exact ⟨rfl, by repeat (first | exact Below.refl _ _ | assumption | refine Below.drew ?_ | refine bl_drewN ?_ _ | refine bl_alloc ?_ _ | refine bl_trans ?_ (by assumption))⟩
      · have hbk : (⟨(backB (1 + a % 4) 0 s.data.toList).toArray⟩ : ByteArray) = s := bytes_ext _ _ (by unfold backB; rw [hu]; exact if_neg he)
        have hq : (escB (1 + a % 4) 0 u == s.toList) = false := by (rw [ByteArray.toList_eq, beq_eq_false_iff_ne]; exact he)
        obtain ⟨_, hq2⟩ := both_forms _ _ _ hq
        clear he
        go_enter Try.func12, Try.ntmps12
        go_wp2_with (first
          | (go_at_call 29; refine (known13_any m _ hm).mono ?_; rintro e w1 ⟨rfl, hb1⟩; have hg1 := hm.bel hb1)
          | (go_at_call 32; refine (back_any _ _ _ m _ (by omega) hg1).mono ?_; rintro e w2 ⟨rfl, hb2⟩; rw [hbk]; have hg2 := hg1.bel hb2)
          | (go_at_call 35; refine (undo_any _ m _ (by omega) hg2).mono ?_; rintro e w3 ⟨rfl, hb3⟩; rw [hu, hus]; have hg3 := hg2.bel hb3)
          | (go_at_call 30; refine (escape_any _ _ _ _ (by omega)).mono ?_; rintro e w4 ⟨rfl, hb4⟩))
        go_ret
        exact ⟨rfl, by repeat (first | exact Below.refl _ _ | assumption | refine Below.drew ?_ | refine bl_drewN ?_ _ | refine bl_alloc ?_ _ | refine bl_trans ?_ (by assumption))⟩
  · cases hu : undoB s.data.toList with
    | none =>
      have hbk : (⟨(backB (1 + a % 4) 1 s.data.toList).toArray⟩ : ByteArray) = s := bytes_ext _ _ (by unfold backB; rw [hu])
      have hus : undoS s.data.toList = ⟨#[]⟩ := by unfold undoS; rw [hu]
      go_enter Try.func12, Try.ntmps12
      go_wp2_with (first
        | (go_at_call 29; refine (known13_any m _ hm).mono ?_; rintro e w1 ⟨rfl, hb1⟩; have hg1 := hm.bel hb1)
        | (go_at_call 32; refine (back_any _ _ _ m _ (by omega) hg1).mono ?_; rintro e w2 ⟨rfl, hb2⟩; rw [hbk]; have hg2 := hg1.bel hb2)
        | (go_at_call 35; refine (undo_any _ m _ (by omega) hg2).mono ?_; rintro e w3 ⟨rfl, hb3⟩; rw [hu, hus]; have hg3 := hg2.bel hb3))
      go_ret
      exact ⟨rfl, by repeat (first | exact Below.refl _ _ | assumption | refine Below.drew ?_ | refine bl_drewN ?_ _ | refine bl_alloc ?_ _ | refine bl_trans ?_ (by assumption))⟩
    | some u =>
      have hus : undoS s.data.toList = ⟨u.toArray⟩ := by unfold undoS; rw [hu]
      have hul := undoB_len _ _ _ (Nat.le_refl _) hu
      have hsl : s.data.toList.length = s.size := by simp
      have husz : (⟨u.toArray⟩ : ByteArray).size = u.length := rfl
      by_cases he : escB (1 + a % 4) 1 u = s.data.toList
      · have hbk : (⟨(backB (1 + a % 4) 1 s.data.toList).toArray⟩ : ByteArray) = ⟨u.toArray⟩ := bytes_ext _ _ (by unfold backB; rw [hu]; exact if_pos he)
        have hes : (⟨(escB (1 + a % 4) 1 u).toArray⟩ : ByteArray) = s := bytes_ext _ _ he
        cases hq : (u == s.toList)
        · obtain ⟨_, hq2⟩ := both_forms _ _ _ hq
          clear he
          go_enter Try.func12, Try.ntmps12
          go_wp2_with (first
            | (go_at_call 29; refine (known13_any m _ hm).mono ?_; rintro e w1 ⟨rfl, hb1⟩; have hg1 := hm.bel hb1)
            | (go_at_call 32; refine (back_any _ _ _ m _ (by omega) hg1).mono ?_; rintro e w2 ⟨rfl, hb2⟩; rw [hbk]; have hg2 := hg1.bel hb2)
            | (go_at_call 35; refine (undo_any _ m _ (by omega) hg2).mono ?_; rintro e w3 ⟨rfl, hb3⟩; rw [hu, hus]; have hg3 := hg2.bel hb3)
            | (go_at_call 30; refine (escape_any _ _ _ _ (by omega)).mono ?_; rintro e w4 ⟨rfl, hb4⟩; rw [hes]))
          go_ret
          exact ⟨rfl, by repeat (first | exact Below.refl _ _ | assumption | refine Below.drew ?_ | refine bl_drewN ?_ _ | refine bl_alloc ?_ _ | refine bl_trans ?_ (by assumption))⟩
        · obtain ⟨_, hq2⟩ := both_forms _ _ _ hq
          clear he
          go_enter Try.func12, Try.ntmps12
          go_wp2_with (first
            | (go_at_call 29; refine (known13_any m _ hm).mono ?_; rintro e w1 ⟨rfl, hb1⟩; have hg1 := hm.bel hb1)
            | (go_at_call 32; refine (back_any _ _ _ m _ (by omega) hg1).mono ?_; rintro e w2 ⟨rfl, hb2⟩; rw [hbk]; have hg2 := hg1.bel hb2)
            | (go_at_call 35; refine (undo_any _ m _ (by omega) hg2).mono ?_; rintro e w3 ⟨rfl, hb3⟩; rw [hu, hus]; have hg3 := hg2.bel hb3)
            | (go_at_call 30; refine (escape_any _ _ _ _ (by omega)).mono ?_; rintro e w4 ⟨rfl, hb4⟩; rw [hes]))
          go_ret
          exact ⟨rfl, by repeat (first | exact Below.refl _ _ | assumption | refine Below.drew ?_ | refine bl_drewN ?_ _ | refine bl_alloc ?_ _ | refine bl_trans ?_ (by assumption))⟩
      · have hbk : (⟨(backB (1 + a % 4) 1 s.data.toList).toArray⟩ : ByteArray) = s := bytes_ext _ _ (by unfold backB; rw [hu]; exact if_neg he)
        have hq : (escB (1 + a % 4) 1 u == s.toList) = false := by (rw [ByteArray.toList_eq, beq_eq_false_iff_ne]; exact he)
        obtain ⟨_, hq2⟩ := both_forms _ _ _ hq
        clear he
        go_enter Try.func12, Try.ntmps12
        go_wp2_with (first
          | (go_at_call 29; refine (known13_any m _ hm).mono ?_; rintro e w1 ⟨rfl, hb1⟩; have hg1 := hm.bel hb1)
          | (go_at_call 32; refine (back_any _ _ _ m _ (by omega) hg1).mono ?_; rintro e w2 ⟨rfl, hb2⟩; rw [hbk]; have hg2 := hg1.bel hb2)
          | (go_at_call 35; refine (undo_any _ m _ (by omega) hg2).mono ?_; rintro e w3 ⟨rfl, hb3⟩; rw [hu, hus]; have hg3 := hg2.bel hb3)
          | (go_at_call 30; refine (escape_any _ _ _ _ (by omega)).mono ?_; rintro e w4 ⟨rfl, hb4⟩))
        go_ret
        exact ⟨rfl, by repeat (first | exact Below.refl _ _ | assumption | refine Below.drew ?_ | refine bl_drewN ?_ _ | refine bl_alloc ?_ _ | refine bl_trans ?_ (by assumption))⟩
end Go.Proofs.Ytdhkfbobfjkclaa
