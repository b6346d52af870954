/- The walk of CharsetTells. -/
import Derived.Test.YtdhkfbobfjkclaaL12a
namespace Go.Proofs.Ytdhkfbobfjkclaa
open Go.RowKit
set_option maxHeartbeats 1600000 in
theorem tells12_any (p wh at' : Int) (s : ByteArray) (w : World) (h2 : s.size ≤ 9223372036854775807) :
    Calls Try.prog 3 #[.int .i64 p, .int .i64 wh, .string s, .int .i64 at'] w fun e w' => e = .returned (.bool true) ∧ Below w.heap.size w w' := by
  by_cases hs : 200 < s.size
  · go_enter Try.func3, Try.ntmps3
    go_wp2_with (go_at_call 14; refine (known12_any _).mono ?_; rintro e w1 ⟨rfl, hb1⟩)
    go_ret
    exact ⟨rfl, by repeat (first | exact Below.refl _ _ | assumption | refine bl_trans ?_ (by assumption))⟩
  · have hd200 : decide ((200 : Int) < s.size) = false := decide_eq_false (by omega)
    go_enter Try.func3, Try.ntmps3
    go_wp2_with (go_at_call 14; refine (known12_any _).mono ?_; rintro e w1 ⟨rfl, hb1⟩)
    go_loopw [9] (fun i wr => ∃ k : Nat, k ≤ 7 ∧ i = .int .i64 k ∧ Below w.heap.size w wr) (fun i _ => 7 - (intOf i).toNat)
    case atStart => exact ⟨0, by omega, rfl, hb1⟩
    case round =>
      obtain ⟨k, hk, rfl, hbk⟩ := hrel
      by_cases hlt : k < 7
      · have hd7 : decide ((k : Int) < 7) = true := decide_eq_true (by omega)
        cases h6 : ((k : Int) == 6)
        all_goals
          go_wp2_with fail
          obtain ⟨wo, rfl⟩ : ∃ wo : World, wo = wr := ⟨_, rfl⟩
          go_loopw [11] (fun i wr => ∃ k : Nat, k ≤ 3 ∧ i = .int .i64 k ∧ Below w.heap.size w wr) (fun i _ => 3 - (intOf i).toNat)
          case atStart => exact ⟨0, by omega, rfl, hbk⟩
          case round =>
            obtain ⟨k2, hk2, rfl, hbk2⟩ := hrel
            by_cases hlt2 : k2 < 3
            · have hd3 : decide ((k2 : Int) < 3) = true := decide_eq_true (by omega)
              cases h2 : ((k2 : Int) == 2)
              all_goals
                go_wp2_with fail
                refine wp_loop_rounds 5 ?_; rw [rounds_succ]
                iterate 5 (
                  go_wp2_with (first
                    | (go_at_call 15; refine (legal_any _ _ _ _ _ (by assumption)).mono ?_; rintro e w1 ⟨rfl, hb1⟩; obtain ⟨hc, hf⟩ := bcell hb1; have hz1 : wr.heap.size < w1.heap.size := by (have := hb1.size; first | omega | (simp at this; omega)))
                    | (go_at_call 16; refine (refLegal_any _ _ _ _ _ (by assumption)).mono ?_; rintro e w1 ⟨rfl, rfl⟩)
                    | (go_at_call 17; refine (is_any _ _ _ _ (by assumption)).mono ?_; rintro e w1 ⟨rfl, hb1⟩)
                    | (go_at_call 18; refine (refIs_any _ _ _ _ (by assumption)).mono ?_; rintro e w1 ⟨rfl, rfl⟩)
                    | (go_at_call 19; refine (bad_any _ _ _ _ (by assumption)).mono ?_; rintro e w1 ⟨rfl, hb1⟩)
                    | (go_at_call 20; refine (refBad_any _ _ _ _ (by assumption)).mono ?_; rintro e w1 ⟨rfl, rfl⟩))
                  try rw [rounds_succ])
                go_roundw
                case rel => exact ⟨k2 + 1, by omega, by go_num, (by repeat (first | exact Below.refl _ _ | assumption | refine Below.drew ?_ | refine bl_alloc ?_ _ | refine bl_trans ?_ (by assumption)))⟩
                case measure => simp [intOf]; omega
            · go_wp2_with fail
              go_roundw
              case rel => exact ⟨k + 1, by omega, by go_num, hbk2⟩
              case measure => simp [intOf]; omega
      · go_wp2_with fail
        go_ret
        exact ⟨rfl, hbk⟩
end Go.Proofs.Ytdhkfbobfjkclaa
