/- CharsetBytes at some ranges of bytes. -/
import Derived.Test.YtdhkfbobfjkclaaL12a
namespace Go.Proofs.Ytdhkfbobfjkclaa
open Go.RowKit
set_option maxRecDepth 100000 in
set_option maxHeartbeats 8000000 in
theorem bytes12_58_0 (c : Int) (w : World) (h0 : 58 ≤ c) (h1 : c ≤ 58) :
    Calls Try.prog 4 #[.int .u8 c, .bool false] w fun e w' => e = .returned (.bool true) ∧ Below w.heap.size w w' := by
  have kc1 := conv1 c
  have kc3 := conv3 97 c 97
  have b35 : (c == 35) = false := beq_eq_false_iff_ne.2 (by omega)
  have m35 : (c != 35) = true := by rw [bne, b35]; rfl
  have b45 : (c == 45) = false := beq_eq_false_iff_ne.2 (by omega)
  have m45 : (c != 45) = true := by rw [bne, b45]; rfl
  have b46 : (c == 46) = false := beq_eq_false_iff_ne.2 (by omega)
  have m46 : (c != 46) = true := by rw [bne, b46]; rfl
  have b58 : (c == 58) = true := beq_iff_eq.2 (by omega)
  have m58 : (c != 58) = false := by rw [bne, b58]; rfl
  have b92 : (c == 92) = false := beq_eq_false_iff_ne.2 (by omega)
  have m92 : (c != 92) = true := by rw [bne, b92]; rfl
  have b95 : (c == 95) = false := beq_eq_false_iff_ne.2 (by omega)
  have m95 : (c != 95) = true := by rw [bne, b95]; rfl
  have f10 : isB 1 0 [UInt8.ofNat c.toNat] = true := (by decide +kernel : ∀ n : Nat, n < 256 → 58 ≤ n → n ≤ 58 → isB 1 0 [UInt8.ofNat n] = true) c.toNat (by omega) (by omega) (by omega)
  have f11 : isB 1 0 [97, UInt8.ofNat c.toNat, 97] = true := (by decide +kernel : ∀ n : Nat, n < 256 → 58 ≤ n → n ≤ 58 → isB 1 0 [97, UInt8.ofNat n, 97] = true) c.toNat (by omega) (by omega) (by omega)
  have f20 : isB 2 0 [UInt8.ofNat c.toNat] = true := (by decide +kernel : ∀ n : Nat, n < 256 → 58 ≤ n → n ≤ 58 → isB 2 0 [UInt8.ofNat n] = true) c.toNat (by omega) (by omega) (by omega)
  have f21 : isB 2 0 [97, UInt8.ofNat c.toNat, 97] = true := (by decide +kernel : ∀ n : Nat, n < 256 → 58 ≤ n → n ≤ 58 → isB 2 0 [97, UInt8.ofNat n, 97] = true) c.toNat (by omega) (by omega) (by omega)
  have f30 : isB 3 0 [UInt8.ofNat c.toNat] = true := (by decide +kernel : ∀ n : Nat, n < 256 → 58 ≤ n → n ≤ 58 → isB 3 0 [UInt8.ofNat n] = true) c.toNat (by omega) (by omega) (by omega)
  have f31 : isB 3 0 [97, UInt8.ofNat c.toNat, 97] = true := (by decide +kernel : ∀ n : Nat, n < 256 → 58 ≤ n → n ≤ 58 → isB 3 0 [97, UInt8.ofNat n, 97] = true) c.toNat (by omega) (by omega) (by omega)
  have f40 : isB 4 0 [UInt8.ofNat c.toNat] = false := (by decide +kernel : ∀ n : Nat, n < 256 → 58 ≤ n → n ≤ 58 → isB 4 0 [UInt8.ofNat n] = false) c.toNat (by omega) (by omega) (by omega)
  have f41 : isB 4 0 [97, UInt8.ofNat c.toNat, 97] = false := (by decide +kernel : ∀ n : Nat, n < 256 → 58 ≤ n → n ≤ 58 → isB 4 0 [97, UInt8.ofNat n, 97] = false) c.toNat (by omega) (by omega) (by omega)
  go_enter Try.func4, Try.ntmps4
  go_wp2_with (go_at_call 14; refine (known12_any _).mono ?_; rintro e w1 ⟨rfl, hb1⟩)
  go_region
  all_goals
    go_wp2_with (go_at_call 17; refine (is_any _ _ _ _ (sz_le _ (by simp))).mono ?_; rintro e w1 ⟨rfl, hb1⟩)
    all_goals go_ret
    all_goals exact ⟨by first | rfl | exact ret_bool (by simp; omega), by repeat (first | exact Below.refl _ _ | assumption | refine Below.drew ?_ | refine bl_alloc ?_ _ | refine bl_trans ?_ (by assumption))⟩
set_option maxRecDepth 100000 in
set_option maxHeartbeats 8000000 in
theorem bytes12_58_1 (c : Int) (w : World) (h0 : 58 ≤ c) (h1 : c ≤ 58) :
    Calls Try.prog 4 #[.int .u8 c, .bool true] w fun e w' => e = .returned (.bool true) ∧ Below w.heap.size w w' := by
  have kc1 := conv1 c
  have kc3 := conv3 97 c 97
  have b35 : (c == 35) = false := beq_eq_false_iff_ne.2 (by omega)
  have m35 : (c != 35) = true := by rw [bne, b35]; rfl
  have b45 : (c == 45) = false := beq_eq_false_iff_ne.2 (by omega)
  have m45 : (c != 45) = true := by rw [bne, b45]; rfl
  have b46 : (c == 46) = false := beq_eq_false_iff_ne.2 (by omega)
  have m46 : (c != 46) = true := by rw [bne, b46]; rfl
  have b58 : (c == 58) = true := beq_iff_eq.2 (by omega)
  have m58 : (c != 58) = false := by rw [bne, b58]; rfl
  have b92 : (c == 92) = false := beq_eq_false_iff_ne.2 (by omega)
  have m92 : (c != 92) = true := by rw [bne, b92]; rfl
  have b95 : (c == 95) = false := beq_eq_false_iff_ne.2 (by omega)
  have m95 : (c != 95) = true := by rw [bne, b95]; rfl
  have f10 : isB 1 1 [UInt8.ofNat c.toNat] = false := (by decide +kernel : ∀ n : Nat, n < 256 → 58 ≤ n → n ≤ 58 → isB 1 1 [UInt8.ofNat n] = false) c.toNat (by omega) (by omega) (by omega)
  have f11 : isB 1 1 [97, UInt8.ofNat c.toNat, 97] = false := (by decide +kernel : ∀ n : Nat, n < 256 → 58 ≤ n → n ≤ 58 → isB 1 1 [97, UInt8.ofNat n, 97] = false) c.toNat (by omega) (by omega) (by omega)
  have f20 : isB 2 1 [UInt8.ofNat c.toNat] = true := (by decide +kernel : ∀ n : Nat, n < 256 → 58 ≤ n → n ≤ 58 → isB 2 1 [UInt8.ofNat n] = true) c.toNat (by omega) (by omega) (by omega)
  have f21 : isB 2 1 [97, UInt8.ofNat c.toNat, 97] = true := (by decide +kernel : ∀ n : Nat, n < 256 → 58 ≤ n → n ≤ 58 → isB 2 1 [97, UInt8.ofNat n, 97] = true) c.toNat (by omega) (by omega) (by omega)
  have f30 : isB 3 1 [UInt8.ofNat c.toNat] = true := (by decide +kernel : ∀ n : Nat, n < 256 → 58 ≤ n → n ≤ 58 → isB 3 1 [UInt8.ofNat n] = true) c.toNat (by omega) (by omega) (by omega)
  have f31 : isB 3 1 [97, UInt8.ofNat c.toNat, 97] = true := (by decide +kernel : ∀ n : Nat, n < 256 → 58 ≤ n → n ≤ 58 → isB 3 1 [97, UInt8.ofNat n, 97] = true) c.toNat (by omega) (by omega) (by omega)
  have f40 : isB 4 1 [UInt8.ofNat c.toNat] = false := (by decide +kernel : ∀ n : Nat, n < 256 → 58 ≤ n → n ≤ 58 → isB 4 1 [UInt8.ofNat n] = false) c.toNat (by omega) (by omega) (by omega)
  have f41 : isB 4 1 [97, UInt8.ofNat c.toNat, 97] = false := (by decide +kernel : ∀ n : Nat, n < 256 → 58 ≤ n → n ≤ 58 → isB 4 1 [97, UInt8.ofNat n, 97] = false) c.toNat (by omega) (by omega) (by omega)
  go_enter Try.func4, Try.ntmps4
  go_wp2_with (go_at_call 14; refine (known12_any _).mono ?_; rintro e w1 ⟨rfl, hb1⟩)
  go_region
  all_goals
    go_wp2_with (go_at_call 17; refine (is_any _ _ _ _ (sz_le _ (by simp))).mono ?_; rintro e w1 ⟨rfl, hb1⟩)
    all_goals go_ret
    all_goals exact ⟨by first | rfl | exact ret_bool (by simp; omega), by repeat (first | exact Below.refl _ _ | assumption | refine Below.drew ?_ | refine bl_alloc ?_ _ | refine bl_trans ?_ (by assumption))⟩
set_option maxRecDepth 100000 in
set_option maxHeartbeats 8000000 in
theorem bytes12_59_0 (c : Int) (w : World) (h0 : 59 ≤ c) (h1 : c ≤ 64) :
    Calls Try.prog 4 #[.int .u8 c, .bool false] w fun e w' => e = .returned (.bool true) ∧ Below w.heap.size w w' := by
  have kc1 := conv1 c
  have kc3 := conv3 97 c 97
  have b35 : (c == 35) = false := beq_eq_false_iff_ne.2 (by omega)
  have m35 : (c != 35) = true := by rw [bne, b35]; rfl
  have b45 : (c == 45) = false := beq_eq_false_iff_ne.2 (by omega)
  have m45 : (c != 45) = true := by rw [bne, b45]; rfl
  have b46 : (c == 46) = false := beq_eq_false_iff_ne.2 (by omega)
  have m46 : (c != 46) = true := by rw [bne, b46]; rfl
  have b58 : (c == 58) = false := beq_eq_false_iff_ne.2 (by omega)
  have m58 : (c != 58) = true := by rw [bne, b58]; rfl
  have b92 : (c == 92) = false := beq_eq_false_iff_ne.2 (by omega)
  have m92 : (c != 92) = true := by rw [bne, b92]; rfl
  have b95 : (c == 95) = false := beq_eq_false_iff_ne.2 (by omega)
  have m95 : (c != 95) = true := by rw [bne, b95]; rfl
  have f10 : isB 1 0 [UInt8.ofNat c.toNat] = false := (by decide +kernel : ∀ n : Nat, n < 256 → 59 ≤ n → n ≤ 64 → isB 1 0 [UInt8.ofNat n] = false) c.toNat (by omega) (by omega) (by omega)
  have f11 : isB 1 0 [97, UInt8.ofNat c.toNat, 97] = false := (by decide +kernel : ∀ n : Nat, n < 256 → 59 ≤ n → n ≤ 64 → isB 1 0 [97, UInt8.ofNat n, 97] = false) c.toNat (by omega) (by omega) (by omega)
  have f20 : isB 2 0 [UInt8.ofNat c.toNat] = true := (by decide +kernel : ∀ n : Nat, n < 256 → 59 ≤ n → n ≤ 64 → isB 2 0 [UInt8.ofNat n] = true) c.toNat (by omega) (by omega) (by omega)
  have f21 : isB 2 0 [97, UInt8.ofNat c.toNat, 97] = true := (by decide +kernel : ∀ n : Nat, n < 256 → 59 ≤ n → n ≤ 64 → isB 2 0 [97, UInt8.ofNat n, 97] = true) c.toNat (by omega) (by omega) (by omega)
  have f30 : isB 3 0 [UInt8.ofNat c.toNat] = false := (by decide +kernel : ∀ n : Nat, n < 256 → 59 ≤ n → n ≤ 64 → isB 3 0 [UInt8.ofNat n] = false) c.toNat (by omega) (by omega) (by omega)
  have f31 : isB 3 0 [97, UInt8.ofNat c.toNat, 97] = false := (by decide +kernel : ∀ n : Nat, n < 256 → 59 ≤ n → n ≤ 64 → isB 3 0 [97, UInt8.ofNat n, 97] = false) c.toNat (by omega) (by omega) (by omega)
  have f40 : isB 4 0 [UInt8.ofNat c.toNat] = false := (by decide +kernel : ∀ n : Nat, n < 256 → 59 ≤ n → n ≤ 64 → isB 4 0 [UInt8.ofNat n] = false) c.toNat (by omega) (by omega) (by omega)
  have f41 : isB 4 0 [97, UInt8.ofNat c.toNat, 97] = false := (by decide +kernel : ∀ n : Nat, n < 256 → 59 ≤ n → n ≤ 64 → isB 4 0 [97, UInt8.ofNat n, 97] = false) c.toNat (by omega) (by omega) (by omega)
  go_enter Try.func4, Try.ntmps4
  go_wp2_with (go_at_call 14; refine (known12_any _).mono ?_; rintro e w1 ⟨rfl, hb1⟩)
  go_region
  all_goals
    go_wp2_with (go_at_call 17; refine (is_any _ _ _ _ (sz_le _ (by simp))).mono ?_; rintro e w1 ⟨rfl, hb1⟩)
    all_goals go_ret
    all_goals exact ⟨by first | rfl | exact ret_bool (by simp; omega), by repeat (first | exact Below.refl _ _ | assumption | refine Below.drew ?_ | refine bl_alloc ?_ _ | refine bl_trans ?_ (by assumption))⟩
set_option maxRecDepth 100000 in
set_option maxHeartbeats 8000000 in
theorem bytes12_59_1 (c : Int) (w : World) (h0 : 59 ≤ c) (h1 : c ≤ 64) :
    Calls Try.prog 4 #[.int .u8 c, .bool true] w fun e w' => e = .returned (.bool true) ∧ Below w.heap.size w w' := by
  have kc1 := conv1 c
  have kc3 := conv3 97 c 97
  have b35 : (c == 35) = false := beq_eq_false_iff_ne.2 (by omega)
  have m35 : (c != 35) = true := by rw [bne, b35]; rfl
  have b45 : (c == 45) = false := beq_eq_false_iff_ne.2 (by omega)
  have m45 : (c != 45) = true := by rw [bne, b45]; rfl
  have b46 : (c == 46) = false := beq_eq_false_iff_ne.2 (by omega)
  have m46 : (c != 46) = true := by rw [bne, b46]; rfl
  have b58 : (c == 58) = false := beq_eq_false_iff_ne.2 (by omega)
  have m58 : (c != 58) = true := by rw [bne, b58]; rfl
  have b92 : (c == 92) = false := beq_eq_false_iff_ne.2 (by omega)
  have m92 : (c != 92) = true := by rw [bne, b92]; rfl
  have b95 : (c == 95) = false := beq_eq_false_iff_ne.2 (by omega)
  have m95 : (c != 95) = true := by rw [bne, b95]; rfl
  have f10 : isB 1 1 [UInt8.ofNat c.toNat] = false := (by decide +kernel : ∀ n : Nat, n < 256 → 59 ≤ n → n ≤ 64 → isB 1 1 [UInt8.ofNat n] = false) c.toNat (by omega) (by omega) (by omega)
  have f11 : isB 1 1 [97, UInt8.ofNat c.toNat, 97] = false := (by decide +kernel : ∀ n : Nat, n < 256 → 59 ≤ n → n ≤ 64 → isB 1 1 [97, UInt8.ofNat n, 97] = false) c.toNat (by omega) (by omega) (by omega)
  have f20 : isB 2 1 [UInt8.ofNat c.toNat] = true := (by decide +kernel : ∀ n : Nat, n < 256 → 59 ≤ n → n ≤ 64 → isB 2 1 [UInt8.ofNat n] = true) c.toNat (by omega) (by omega) (by omega)
  have f21 : isB 2 1 [97, UInt8.ofNat c.toNat, 97] = true := (by decide +kernel : ∀ n : Nat, n < 256 → 59 ≤ n → n ≤ 64 → isB 2 1 [97, UInt8.ofNat n, 97] = true) c.toNat (by omega) (by omega) (by omega)
  have f30 : isB 3 1 [UInt8.ofNat c.toNat] = false := (by decide +kernel : ∀ n : Nat, n < 256 → 59 ≤ n → n ≤ 64 → isB 3 1 [UInt8.ofNat n] = false) c.toNat (by omega) (by omega) (by omega)
  have f31 : isB 3 1 [97, UInt8.ofNat c.toNat, 97] = false := (by decide +kernel : ∀ n : Nat, n < 256 → 59 ≤ n → n ≤ 64 → isB 3 1 [97, UInt8.ofNat n, 97] = false) c.toNat (by omega) (by omega) (by omega)
  have f40 : isB 4 1 [UInt8.ofNat c.toNat] = false := (by decide +kernel : ∀ n : Nat, n < 256 → 59 ≤ n → n ≤ 64 → isB 4 1 [UInt8.ofNat n] = false) c.toNat (by omega) (by omega) (by omega)
  have f41 : isB 4 1 [97, UInt8.ofNat c.toNat, 97] = false := (by decide +kernel : ∀ n : Nat, n < 256 → 59 ≤ n → n ≤ 64 → isB 4 1 [97, UInt8.ofNat n, 97] = false) c.toNat (by omega) (by omega) (by omega)
  go_enter Try.func4, Try.ntmps4
  go_wp2_with (go_at_call 14; refine (known12_any _).mono ?_; rintro e w1 ⟨rfl, hb1⟩)
  go_region
  all_goals
    go_wp2_with (go_at_call 17; refine (is_any _ _ _ _ (sz_le _ (by simp))).mono ?_; rintro e w1 ⟨rfl, hb1⟩)
    all_goals go_ret
    all_goals exact ⟨by first | rfl | exact ret_bool (by simp; omega), by repeat (first | exact Below.refl _ _ | assumption | refine Below.drew ?_ | refine bl_alloc ?_ _ | refine bl_trans ?_ (by assumption))⟩
end Go.Proofs.Ytdhkfbobfjkclaa
