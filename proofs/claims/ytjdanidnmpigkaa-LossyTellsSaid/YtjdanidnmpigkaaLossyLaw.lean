/- The plain laws of lossy names (no program in sight). -/
import Derived.Test.YtjdanidnmpigkaaCharLaw
import Derived.Test.YtjdanidnmpigkaaLossyDef
namespace Go.Proofs.Ytjdanidnmpigkaa
open Go.RowKit
set_option maxHeartbeats 1600000 in
theorem loss_legal (p wh : Int) (hp : 1 ≤ p ∧ p ≤ 4) (hw : wh = 0 ∨ wh = 1) (l : List UInt8) (j : Nat) (hj : j < (lossB p wh l).length) : legalB p wh (lossB p wh l) j = true := by
  rw [lossB_len] at hj
  have hb := lossB_bt p wh l j hj
  unfold legalB
  rw [decide_eq_true_eq]
  refine ⟨by omega, by rw [lossB_len]; omega, hw, ?_⟩
  simp only [lineB, pointB, lettB_iff, Int.toNat_natCast, decide_eq_true_eq, eq_self, true_and, lossB_len]
  cases hL : legalB p wh l j
  · rw [hL] at hb
    rw [hb]
    have hp4 : p = 1 ∨ p = 2 ∨ p = 3 ∨ p = 4 := by omega
    rcases hp4 with h | h | h | h <;> subst h <;> simp
  · rw [hL, if_pos rfl] at hb
    have hL' := hL
    unfold legalB at hL'
    rw [decide_eq_true_eq] at hL'
    simp only [lineB, pointB, lettB_iff, Int.toNat_natCast, decide_eq_true_eq, eq_self, true_and] at hL'
    have hprev : 0 < j → bt l (j - 1) ≠ 46 → bt (lossB p wh l) (j - 1) ≠ 46 := by
      intro h0 h46
      rw [lossB_bt p wh l (j - 1) (by omega)]
      split
      · exact h46
      · decide
    rw [hb]
    have hp4 : p = 1 ∨ p = 2 ∨ p = 3 ∨ p = 4 := by omega
    rcases hp4 with h | h | h | h <;> subst h <;> simp only [Int.reduceEq, false_and, true_and, false_or, or_false] at hL' ⊢ <;> omega
theorem loss_bad (p wh : Int) (hp : 1 ≤ p ∧ p ≤ 4) (hw : wh = 0 ∨ wh = 1) (l : List UInt8) : badB p wh (lossB p wh l) = -1 := badB_all p wh _ (loss_legal p wh hp hw l)
theorem loss_same (p wh : Int) (l : List UInt8) (h : ∀ j : Nat, j < l.length → legalB p wh l j = true) : lossB p wh l = l := by
  apply List.ext_getElem (by rw [lossB_len])
  intro i h1 h2
  have h3 := lossTo_at p wh l l.length i h2
  rw [lossAt, if_pos (h i h2), List.getD_eq_getElem?_getD, List.getD_eq_getElem?_getD, List.getElem?_eq_getElem (by rw [lossTo_len]; exact h2), List.getElem?_eq_getElem h2] at h3
  exact h3
theorem loss_twice (p wh : Int) (hp : 1 ≤ p ∧ p ≤ 4) (hw : wh = 0 ∨ wh = 1) (l : List UInt8) : lossB p wh (lossB p wh l) = lossB p wh l := loss_same p wh _ (loss_legal p wh hp hw l)
/-- The law of LossyLegal's last limb: it stays, or it wasn't legal. -/
theorem loss_or (p wh : Int) (l : List UInt8) : lossB p wh l = l ∨ 0 ≤ badB p wh l := by
  by_cases h : badB p wh l < 0
  · exact .inl (loss_same p wh l ((badB_neg p wh l).1 h))
  · exact .inr (by omega)
end Go.Proofs.Ytjdanidnmpigkaa
