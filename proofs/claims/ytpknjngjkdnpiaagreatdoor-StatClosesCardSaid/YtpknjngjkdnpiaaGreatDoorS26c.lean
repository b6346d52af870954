/- The walk of StatCloses. -/
import Derived.Test.YtpknjngjkdnpiaaGreatDoorCloseS
namespace Go.Proofs.YtpknjngjkdnpiaaGreatDoor
set_option linter.unusedVariables false
set_option linter.unusedSimpArgs false
open Go.RowKit
theorem closes_at {s : ByteArray} {k : Nat} (hk : k ≤ s.size) (h : statBad s.data.toList = -1 ∨ (k : Int) ≤ statBad s.data.toList) : ∃ r i j, r < 9 ∧ i < 2 ∧ j ≤ (endB i).size ∧ clB (s.extract 0 k) r i j = true := by
  obtain ⟨r, i, j, h1, h2, h3, h4⟩ := stat_closes (l := s.data.toList) (k := k) (by simpa using hk) h
  refine ⟨r, i, j, h1, h2, h3, ?_⟩
  unfold clB
  rw [endT_list, ext_bytes, List.drop_zero, Nat.sub_zero, h4]
  decide
set_option maxRecDepth 100000 in
set_option maxHeartbeats 3200000 in
theorem closes26_any (s : ByteArray) (c : Int) (w : World) (hs : s.size ≤ 9223372036854775807) (hc0 : 0 ≤ c) (hc1 : c ≤ 65535) :
    Calls Tryz.prog 5 #[.string s, .int .u16 c] w fun e w' => e = .returned (.bool true) ∧ Below w.heap.size w w' := by
  by_cases h300 : 300 < s.size
  · have hd1 : decide ((300 : Int) < s.size) = true := decide_eq_true (by omega)
    go_enter Tryz.func5, Tryz.ntmps5
    go_wp2_with (go_at_call 9; refine (known26_any _).mono ?_; rintro e w1 ⟨rfl, hb1⟩)
    go_ret
    exact ⟨rfl, hb1⟩
  have hd1 : decide ((300 : Int) < s.size) = false := decide_eq_false (by omega)
  have hbd := statBad_bd s.data.toList
  have hL : s.data.toList.length = s.size := by simp
  rw [hL] at hbd
  have kB := fun W => sbad_any s W (by omega)
  have hfin : ∀ k : Nat, k ≤ s.size → (statBad s.data.toList = -1 ∨ (k : Int) ≤ statBad s.data.toList) → ∀ W, Calls Tryz.prog 14 #[.int .i64 4, .string (s.extract 0 k)] W fun e w' => CloseE (s.extract 0 k) e ∧ Below W.heap.size W w' := fun k hk h W => close_any (s.extract 0 k) W (by rw [ByteArray.size_extract]; omega) (closes_at hk h)
  rcases Int.lt_or_le (statBad s.data.toList) 0 with hneg | hpos
  · have hk : statBad s.data.toList = -1 := by omega
    obtain ⟨k, hkk⟩ : ∃ k : Nat, (k : Int) = c % ((s.size : Int) + 1) := ⟨(c % ((s.size : Int) + 1)).toNat, Int.toNat_of_nonneg (Int.emod_nonneg _ (by omega))⟩
    have hks : k ≤ s.size := by
      have := Int.emod_lt_of_pos c (show (0 : Int) < (s.size : Int) + 1 by omega)
      omega
    have kC := hfin k hks (.inl hk)
    have hm1 : c % ((s.size : Int) + 1) = (k : Int) := hkk.symm
    have hm2 : c.tmod ((s.size : Int) + 1) = (k : Int) := by rw [Int.tmod_eq_emod_of_nonneg hc0]; exact hm1
    have hse : (s.extract 0 k).size ≤ 300 := by rw [ByteArray.size_extract]; omega
    rw [hk] at kB
    have hd2 : decide ((s.size : Int) < k) = false := decide_eq_false (by omega)
    have hd3 : decide (s.size < k) = false := decide_eq_false (by omega)
    have hi0 : (0 : Int) ≤ k := by omega
    have hi1 : (k : Int) ≤ s.size := by omega
    clear hk hbd hneg hfin hkk
    go_enter Tryz.func5, Tryz.ntmps5
    go_wp2_with (first
      | (go_at_call 9; refine (known26_any _).mono ?_; rintro e w1 ⟨rfl, hb1⟩)
      | (go_at_call 12; (with_reducible refine (kB _).mono ?_); rintro e w2 ⟨rfl, hb2⟩)
      | (go_at_call 14; refine (kC _).mono ?_; rintro e w3 ⟨⟨t, rfl, ht, hbt⟩, hb3⟩; have kT := fun W => knB (s.extract 0 k ++ t) (-1) hbt (by rw [ByteArray.size_append]; omega) W; clear hbt; have hl2 : ¬ 9223372036854775807 < min k s.size - 0 + t.size := (by omega); have hl3 : ¬ 9223372036854775807 < min k s.size + t.size := (by omega))
      | (go_at_call 12; (with_reducible refine (kT _).mono ?_); rintro e w4 ⟨rfl, hb4⟩))
    go_ret
    exact ⟨rfl, bl_any (bl_any (bl_any hb1 hb2) hb3) hb4⟩
  · obtain ⟨k, hk⟩ : ∃ k : Nat, statBad s.data.toList = (k : Int) := ⟨(statBad s.data.toList).toNat, by omega⟩
    have hks : k ≤ s.size := by omega
    have kC := hfin k hks (.inr (by omega))
    have hse : (s.extract 0 k).size ≤ 300 := by rw [ByteArray.size_extract]; omega
    rw [hk] at kB
    have hd2 : decide ((s.size : Int) < k) = false := decide_eq_false (by omega)
    have hd3 : decide (s.size < k) = false := decide_eq_false (by omega)
    have hd4 : decide ((k : Int) < 0) = false := decide_eq_false (by omega)
    have hi0 : (0 : Int) ≤ k := by omega
    have hi1 : (k : Int) ≤ s.size := by omega
    clear hk hbd hpos hfin
    go_enter Tryz.func5, Tryz.ntmps5
    go_wp2_with (first
      | (go_at_call 9; refine (known26_any _).mono ?_; rintro e w1 ⟨rfl, hb1⟩)
      | (go_at_call 12; (with_reducible refine (kB _).mono ?_); rintro e w2 ⟨rfl, hb2⟩)
      | (go_at_call 14; refine (kC _).mono ?_; rintro e w3 ⟨⟨t, rfl, ht, hbt⟩, hb3⟩; have kT := fun W => knB (s.extract 0 k ++ t) (-1) hbt (by rw [ByteArray.size_append]; omega) W; clear hbt; have hl2 : ¬ 9223372036854775807 < min k s.size - 0 + t.size := (by omega); have hl3 : ¬ 9223372036854775807 < min k s.size + t.size := (by omega))
      | (go_at_call 12; (with_reducible refine (kT _).mono ?_); rintro e w4 ⟨rfl, hb4⟩))
    go_ret
    exact ⟨rfl, bl_any (bl_any (bl_any hb1 hb2) hb3) hb4⟩
theorem wf16 {n : Int} (h : (Lit.int .u16 n).wf = true) : 0 ≤ n ∧ n ≤ 65535 := by
  simp [Lit.wf, IntKind.min, IntKind.max, IntKind.signed, IntKind.bits] at h
  omega
end Go.Proofs.YtpknjngjkdnpiaaGreatDoor
