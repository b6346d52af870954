/- Tenants: which names, which protocols, which configurations may be. -/
import Derived.Test.YtjffagffjcbolaaTplB
import Derived.Test.YtjffagffjcbolaaTenMap
namespace Go.Proofs.Ytjffagffjcbolaa
set_option linter.unusedVariables false
set_option linter.unusedSimpArgs false
open Go.RowKit
def tnC (c : Int) : Bool := smB c || (digB c || c == 45)
/-- May a text be a tenant? -/
def tnameB (l : List UInt8) : Bool := inksB tnC l && decide (l.length ≤ 16)
theorem tn_cases (c : Int) : (tnC c = true ∧ ((decide (c < 97) = false ∧ decide (122 < c) = false) ∨ (decide (c < 97) = true ∧ decide (c < 48) = false ∧ decide (57 < c) = false) ∨ (decide (c < 97) = true ∧ decide (c < 48) = true ∧ (c == 45) = true ∧ (c != 45) = false))) ∨
    (tnC c = false ∧ ((decide (c < 97) = true ∧ decide (c < 48) = true ∧ (c == 45) = false ∧ (c != 45) = true) ∨ (decide (c < 97) = true ∧ decide (c < 48) = false ∧ decide (57 < c) = true ∧ (c == 45) = false ∧ (c != 45) = true) ∨ (decide (c < 97) = false ∧ decide (122 < c) = true ∧ decide (c < 48) = false ∧ decide (57 < c) = true ∧ (c == 45) = false ∧ (c != 45) = true))) := by
  unfold tnC smB digB
  simp only [Bool.or_eq_true, Bool.and_eq_true, decide_eq_true_eq, decide_eq_false_iff_not, beq_iff_eq, beq_eq_false_iff_ne, bne_iff_ne, Bool.or_eq_false_iff, Bool.and_eq_false_iff, bne_eq_false_iff_eq, ne_eq]
  omega
set_option maxHeartbeats 3200000 in
theorem tenant_any (s : ByteArray) (w : World) (hs : s.size ≤ 9223372036854775807) :
    Calls Try.prog 23 #[.string s] w fun e w' => e = .returned (.bool (tnameB s.data.toList)) ∧ w' = w := by
  have HL : Hid (s.data.toList.length = s.size) := Lib.hid (by simp)
  obtain ⟨V, hV⟩ : ∃ V, inksB tnC s.data.toList = V := ⟨_, rfl⟩
  have HB : Hid (tnameB s.data.toList = (V && decide (s.size ≤ 16))) := Lib.hid (by unfold tnameB; rw [hV, HL.out])
  have HV := Lib.hid hV
  clear hV
  go_enter Try.func23, Try.ntmps23
  go_wp2_with fail
  go_loop [7] (fun i => ∃ k : Nat, k ≤ s.size ∧ i = .int .i64 k ∧ Hid (∀ j, j < k → tnC (bt s.data.toList j) = true)) (fun i => s.size - (intOf i).toNat)
  case atStart => exact ⟨0, by omega, rfl, Lib.hid (fun j h => by omega)⟩
  case round =>
    obtain ⟨k, hk, rfl, HG⟩ := hrel
    by_cases hlt : k < s.size
    · have hd : decide ((k : Int) < s.size) = true := decide_eq_true (by omega)
      have hk0 : (0 : Int) ≤ k := by omega
      have hk1 : (k : Int) < s.size := by omega
      have HC := Lib.hid (getElem_bt hlt)
      obtain ⟨c, hc⟩ : ∃ c : Int, ((s[k]'hlt).toNat : Int) = c := ⟨_, rfl⟩
      have HC2 : Hid (bt s.data.toList k = c) := Lib.hid (by rw [← hc]; exact HC.out.symm)
      rcases tn_cases c with ⟨ht, hq⟩ | ⟨ht, hq⟩
      · have HF : Hid (∀ j, j < k + 1 → tnC (bt s.data.toList j) = true) := Lib.hid (fun j hj => by
          by_cases e : j = k
          · rw [e, HC2.out]; exact ht
          · exact HG.out j (by omega))
        clear ht HG
        rcases hq with ⟨d1, d2⟩ | ⟨d1, d2, d3⟩ | ⟨d1, d2, d3, d4⟩
        all_goals
          go_wp2_with fail
          exact ⟨⟨k + 1, by omega, rfl, HF⟩, by (simp only [intOf]; omega)⟩
      · have HF : Hid (V = false) := Lib.hid (by rw [← HV.out]; exact inks_no (by rw [HL.out]; exact hlt) (by rw [HC2.out]; exact ht))
        clear ht HG
        rcases hq with ⟨d1, d2, d3, d4⟩ | ⟨d1, d2, d3, d4, d5⟩ | ⟨d1, d2, d3, d4, d5, d6⟩
        all_goals
          go_wp2_with fail
          go_ret
          exact ⟨ret_bool (by rw [HB.out, HF.out]; rfl), rfl⟩
    · have hd : decide ((k : Int) < s.size) = false := decide_eq_false (by omega)
      have HF : Hid (V = !(s.data.toList == [])) := Lib.hid (by rw [← HV.out]; exact inks_yes (fun j hj => HG.out j (by rw [HL.out] at hj; omega)))
      have hd16 : decide ((s.size : Int) ≤ 16) = decide (s.size ≤ 16) := decide_eq_decide.2 (by omega)
      clear HG
      rw [← ByteArray.toList_eq] at HF
      cases he : (s.toList == [])
      all_goals
        go_wp2_with fail
        go_ret
        exact ⟨ret_bool (by rw [HB.out, HF.out, he]; first | rfl | (simp; try omega)), rfl⟩
end Go.Proofs.Ytjffagffjcbolaa
