/- The walks of the laws on charset. -/
import Derived.Test.YtdhkfbobfjkclaaCharset3
import Derived.Test.YtdhkfbobfjkclaaAux2
namespace Go.Proofs.Ytdhkfbobfjkclaa
open Go.RowKit
set_option maxHeartbeats 1600000 in
theorem known12_any (w : World) :
    Calls Try.prog 14 #[] w fun e w' => e = .returned (.bool true) ∧ Below w.heap.size w w' := by
  have k1 : isB 1 0 [97, 58, 98, 95, 57] = true := by decide
  have k2 : isB 1 1 [97, 58, 98] = false := by decide
  have k3 : badB 1 0 [97, 46, 98] = 1 := by decide
  have k4 : legalB 3 0 [97, 46, 98] 1 = true := by decide
  have k5 : legalB 3 0 [97, 46, 46, 98] 2 = false := by decide
  have k6 : isB 2 0 [32, 97, 44, 98] = true := by decide
  have k7 : isB 2 0 [35, 97] = false := by decide
  have k8 : isB 4 1 [97, 46, 98, 45, 99] = true := by decide
  have k9 : badB 9 0 [97] = 0 := by decide
  go_enter Try.func14, Try.ntmps14
  go_wp2_with (first
    | (go_at_call 17; refine (is_any _ _ _ _ (by decide)).mono ?_; rintro e w1 ⟨rfl, hb1⟩)
    | (go_at_call 19; refine (bad_any _ _ _ _ (by decide)).mono ?_; rintro e w1 ⟨rfl, hb1⟩)
    | (go_at_call 15; refine (legal_any _ _ _ _ _ (by decide)).mono ?_; rintro e w1 ⟨rfl, hb1⟩))
  go_ret
  exact ⟨rfl, by repeat (first | exact Below.refl _ _ | assumption | refine bl_trans ?_ (by assumption))⟩


theorem conv1 (c : Int) (W : World) (b : Nat) (h : W.cell? ⟨b, 0, none⟩ = some (.int .u8 c)) :
    (convert 27 9 (.slice (some ⟨b, 0, none⟩) 1 1)).run Try.prog W = .ok (.string ⟨#[UInt8.ofNat c.toNat]⟩) W := by
  rw [run_convert_bytes_arg W 27 5 Try.underlying27 Try.underlying5 b 0 1 1 [c] rfl (by
    intro i hi
    match i, hi with
    | 0, _ => simpa using h) _ Try.underlying9]
  rfl
theorem conv3 (x c y : Int) (W : World) (b : Nat) (h : W.cell? ⟨b, 0, none⟩ = some (.int .u8 x)) (h1 : W.cell? ⟨b, 1, none⟩ = some (.int .u8 c)) (h2 : W.cell? ⟨b, 2, none⟩ = some (.int .u8 y)) :
    (convert 27 9 (.slice (some ⟨b, 0, none⟩) 3 3)).run Try.prog W = .ok (.string ⟨#[UInt8.ofNat x.toNat, UInt8.ofNat c.toNat, UInt8.ofNat y.toNat]⟩) W := by
  rw [run_convert_bytes_arg W 27 5 Try.underlying27 Try.underlying5 b 0 3 3 [x, c, y] rfl (by
    intro i hi
    match i, hi with
    | 0, _ => simpa using h
    | 1, _ => simpa using h1
    | 2, _ => simpa using h2) _ Try.underlying9]
  rfl

end Go.Proofs.Ytdhkfbobfjkclaa
