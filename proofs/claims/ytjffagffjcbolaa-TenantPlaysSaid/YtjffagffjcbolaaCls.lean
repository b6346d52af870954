/- The walks of functions that tell whether a byte is of a class, and of While, Some by them. -/
import Derived.Test.YtjffagffjcbolaaScanE
import Derived.Test.YtjffagffjcbolaaClsDef
namespace Go.Proofs.Ytjffagffjcbolaa
set_option linter.unusedVariables false
set_option linter.unusedSimpArgs false
open Go.RowKit
theorem idxC (m : ByteArray) (c : Int) (w : World) (h0 : 0 ≤ c) (h1 : c ≤ 255) : Calls Try.prog 82 #[.string m, .int .u8 c] w fun e w' => (∃ D, e = .returned (.int .i64 D) ∧ decide (0 ≤ D) = m.data.toList.any fun d => c == d.toNat) ∧ w' = w :=
  (Try.strings_IndexByte m c w).mono fun e w' ⟨h2, h3⟩ => ⟨⟨_, h2, (idx_any m.data.toList c h0 h1).symm⟩, h3⟩
set_option maxHeartbeats 1600000 in
theorem tnodeE (c : Int) (w : World) (h0 : 0 ≤ c) (h1 : c ≤ 255) : Calls Try.prog 61 #[.int .u8 c] w fun e w' => e = .returned (.bool (dtNode c)) ∧ w' = w := by
  have kI := fun W => idxC ⟨#[95, 45, 58]⟩ c W h0 h1
  have hI : ((⟨#[95, 45, 58]⟩ : ByteArray).data.toList.any fun d => c == d.toNat) = (c == 95 || (c == 45 || c == 58)) := by simp
  rw [hI] at kI
  clear hI
  have HB : Hid (dtNode c = ((decide (97 ≤ c) && decide (c ≤ 122) || decide (65 ≤ c) && decide (c ≤ 90)) || ((decide (48 ≤ c) && decide (c ≤ 57)) || (c == 95 || (c == 45 || c == 58))))) := Lib.hid rfl
  go_enter Try.func61, Try.ntmps61
  go_wp2_with (go_at_call 82; refine (kI _).mono ?_; rintro e w1 ⟨⟨Q, rfl, hQ⟩, hw1⟩; rw [hw1]; clear hw1 w1)
  all_goals
    go_ret
    exact ⟨ret_bool (by rw [HB.out]; apply bcl; first | (rw [hQ]; simp; omega) | (simp; omega)), rfl⟩
theorem tinkE (c : Int) (w : World) (_h0 : 0 ≤ c) (_h1 : c ≤ 255) : Calls Try.prog 66 #[.int .u8 c] w fun e w' => e = .returned (.bool (tmInk c)) ∧ w' = w := by
  have HB : Hid (tmInk c = (decide (32 < c) && (decide (c < 127) && (!(c == 59) && !(c == 44))))) := Lib.hid rfl
  go_enter Try.func66, Try.ntmps66
  go_wp2_with fail
  all_goals
    go_ret
    exact ⟨ret_bool (by rw [HB.out]; apply bcl; simp; try omega), rfl⟩
theorem tnodeC (c : Int) (w : World) (h0 : 0 ≤ c) (h1 : c ≤ 255) : Calls Try.prog 61 #[.int .u8 c] w fun e w' => e = .returned (.bool (dtNode c)) ∧ Aw [] w w' :=
  (tnodeE c w h0 h1).mono fun e w' ⟨h2, h3⟩ => ⟨h2, by rw [h3]; exact Aw.refl _ _⟩
theorem tinkC (c : Int) (w : World) (h0 : 0 ≤ c) (h1 : c ≤ 255) : Calls Try.prog 66 #[.int .u8 c] w fun e w' => e = .returned (.bool (tmInk c)) ∧ Aw [] w w' :=
  (tinkE c w h0 h1).mono fun e w' ⟨h2, h3⟩ => ⟨h2, by rw [h3]; exact Aw.refl _ _⟩
theorem pkC_bd (l : List UInt8) (a : Nat) (no : Bool) : 0 ≤ pkC l a no ∧ pkC l a no ≤ 255 := by
  unfold pkC
  split
  · exact ⟨bt_nonneg l a, bt_le l a⟩
  · omega
end Go.Proofs.Ytjffagffjcbolaa
