/- The walks of label.Name, label.Value and of the reference's. -/
import Derived.Test.YtlolbpefeagclaaUtfRef
import Derived.Test.YtlolbpefeagclaaLabDef
namespace Go.Proofs.Ytlolbpefeagclaa
open Go.RowKit
theorem nil_size (s : ByteArray) : s.data.toList = [] ↔ s.size = 0 := by
  rw [← List.length_eq_zero_iff]; exact Iff.rfl
theorem ink_no {l : List UInt8} {k : Nat} (h : k < l.length) (hb : bt l k < 32 ∨ bt l k = 127) : nameB l = false := by
  unfold nameB
  cases hi : inkB l
  · rfl
  · have := (inkB_iff l).1 hi k h; omega
theorem ink_yes {l : List UInt8} (h : ∀ j, j < l.length → 32 ≤ bt l j ∧ bt l j ≠ 127) : nameB l = (decide (l ≠ []) && (decide (l.length ≤ 60) && decide (badU l < 0))) := by
  unfold nameB; rw [(inkB_iff l).2 h, Bool.true_and]
set_option maxRecDepth 100000 in
set_option maxHeartbeats 800000 in
theorem labName_any (s : ByteArray) (w : World) (hs : s.size ≤ 4611686018427387904) :
    Calls Try.prog 20 #[.string s] w fun e w' => e = .returned (.bool (nameB s.data.toList)) ∧ Below w.heap.size w w' := by
  have hsl : s.data.toList.length = s.size := by simp
  go_enter Try.func20, Try.ntmps20
  go_wp2_with fail
  go_loop [6] (fun i => ∃ k : Nat, k ≤ s.size ∧ i = .int .i64 k ∧ Hid (∀ j, j < k → 32 ≤ bt s.data.toList j ∧ bt s.data.toList j ≠ 127)) (fun i => s.size - (intOf i).toNat)
  case atStart => exact ⟨0, by omega, rfl, Lib.hid (fun j h => absurd h (by omega))⟩
  case round =>
    obtain ⟨k, hk, rfl, HG⟩ := hrel
    by_cases hlt : k < s.size
    · have hdk : decide ((k : Int) < s.size) = true := decide_eq_true (by omega)
      have hk0 : (0 : Int) ≤ k := by omega
      have hk1 : (k : Int) < s.size := by omega
      have hc : ((s[k]).toNat : Int) = bt s.data.toList k := getElem_bt hlt
      have c0 := bt_nonneg s.data.toList k
      have c1 := bt_le s.data.toList k
      by_cases h32 : bt s.data.toList k < 32
      · have HF := Lib.hid (ink_no (l := s.data.toList) (k := k) (by omega) (.inl h32))
        have hd : decide (bt s.data.toList k < 32) = true := decide_eq_true h32
        go_wp2_with fail
        go_ret
        exact ⟨ret_bool HF.out.symm, Below.refl _ _⟩
      · have hd : decide (bt s.data.toList k < 32) = false := decide_eq_false h32
        cases h127 : (bt s.data.toList k == 127)
        · have HF := Lib.hid (show ∀ j, j < k + 1 → 32 ≤ bt s.data.toList j ∧ bt s.data.toList j ≠ 127 from fun j hj => by
            by_cases e : j = k
            · subst e; rw [beq_eq_false_iff_ne] at h127; exact ⟨by omega, h127⟩
            · exact HG.out j (by omega))
          go_wp2_with fail
          exact ⟨⟨k + 1, by omega, rfl, HF⟩, by (simp only [intOf]; omega)⟩
        · have HF := Lib.hid (ink_no (l := s.data.toList) (k := k) (by omega) (.inr (by rw [beq_iff_eq] at h127; exact h127)))
          go_wp2_with fail
          go_ret
          exact ⟨ret_bool HF.out.symm, Below.refl _ _⟩
    · have hdk : decide ((k : Int) < s.size) = false := decide_eq_false (by omega)
      obtain rfl : k = s.size := by omega
      have HF := Lib.hid (ink_yes (l := s.data.toList) (by rw [hsl]; exact HG.out))
      clear HG hsl
      have hub := fun W => ubad_any s W hs
      by_cases hE : s.toList = []
      · have HE : Hid (nameB s.data.toList = false) := Lib.hid (by rw [HF.out, decide_eq_false (by rw [ByteArray.toList_eq] at hE; exact fun h => h hE)]; rfl)
        go_wp2_with fail
        go_ret
        exact ⟨ret_bool HE.out.symm, Below.refl _ _⟩
      · have HE : Hid (nameB s.data.toList = (decide (s.data.toList.length ≤ 60) && decide (badU s.data.toList < 0))) := Lib.hid (by rw [HF.out, decide_eq_true (by rw [ByteArray.toList_eq] at hE; exact hE), Bool.true_and])
        have hE2 : s.toList.isEmpty = false := by simpa using hE
        clear HF
        by_cases h60 : s.size ≤ 60
        · have hd60 : decide ((s.size : Int) ≤ 60) = true := decide_eq_true (by omega)
          have HN : Hid (nameB s.data.toList = decide (badU s.data.toList < 0)) := Lib.hid (by rw [HE.out, decide_eq_true (show s.data.toList.length ≤ 60 by simpa using h60), Bool.true_and])
          clear HE
          go_wp2_with (go_at_call 34; refine (hub _).mono ?_; rintro e w1 ⟨rfl, hb1⟩)
          go_ret
          exact ⟨ret_bool HN.out.symm, hb1⟩
        · have hd60 : decide ((s.size : Int) ≤ 60) = false := decide_eq_false (by omega)
          have HN : Hid (nameB s.data.toList = false) := Lib.hid (by rw [HE.out, decide_eq_false (show ¬ s.data.toList.length ≤ 60 by simpa using h60), Bool.false_and])
          clear HE
          go_wp2_with fail
          go_ret
          exact ⟨ret_bool HN.out.symm, Below.refl _ _⟩
set_option maxRecDepth 100000 in
theorem labValue_any (s : ByteArray) (w : World) (hs : s.size ≤ 4611686018427387904) :
    Calls Try.prog 22 #[.string s] w fun e w' => e = .returned (.bool (valB s.data.toList)) ∧ Below w.heap.size w w' := by
  have hub := fun W => ubad_any s W hs
  by_cases h60 : s.size ≤ 60
  · have hd60 : decide ((s.size : Int) ≤ 60) = true := decide_eq_true (by omega)
    have HN : Hid (valB s.data.toList = decide (badU s.data.toList < 0)) := Lib.hid (by unfold valB; rw [decide_eq_true (show s.data.toList.length ≤ 60 by simpa using h60), Bool.true_and])
    go_enter Try.func22, Try.ntmps22
    go_wp2_with (go_at_call 34; refine (hub _).mono ?_; rintro e w1 ⟨rfl, hb1⟩)
    go_ret
    exact ⟨ret_bool HN.out.symm, hb1⟩
  · have hd60 : decide ((s.size : Int) ≤ 60) = false := decide_eq_false (by omega)
    have HN : Hid (valB s.data.toList = false) := Lib.hid (by unfold valB; rw [decide_eq_false (show ¬ s.data.toList.length ≤ 60 by simpa using h60), Bool.false_and])
    go_enter Try.func22, Try.ntmps22
    go_wp2_with fail
    go_ret
    exact ⟨ret_bool HN.out.symm, Below.refl _ _⟩
set_option maxRecDepth 100000 in
set_option maxHeartbeats 800000 in
theorem refName_any (s : ByteArray) (w : World) (hs : s.size ≤ 4611686018427387904) :
    Calls Try.prog 21 #[.string s] w fun e w' => e = .returned (.bool (nameB s.data.toList)) ∧ w = w' := by
  have hsl : s.data.toList.length = s.size := by simp
  go_enter Try.func21, Try.ntmps21
  go_wp2_with fail
  go_loop [3] (fun i => ∃ k : Nat, k ≤ s.size ∧ i = .int .i64 k ∧ Hid (∀ j, j < k → 32 ≤ bt s.data.toList j ∧ bt s.data.toList j ≠ 127)) (fun i => s.size - (intOf i).toNat)
  case atStart => exact ⟨0, by omega, rfl, Lib.hid (fun j h => absurd h (by omega))⟩
  case round =>
    obtain ⟨k, hk, rfl, HG⟩ := hrel
    by_cases hlt : k < s.size
    · have hdk : decide ((k : Int) < s.size) = true := decide_eq_true (by omega)
      have hk0 : (0 : Int) ≤ k := by omega
      have hk1 : (k : Int) < s.size := by omega
      have hc : ((s[k]).toNat : Int) = bt s.data.toList k := getElem_bt hlt
      have c0 := bt_nonneg s.data.toList k
      have c1 := bt_le s.data.toList k
      by_cases h32 : bt s.data.toList k < 32
      · have HF := Lib.hid (ink_no (l := s.data.toList) (k := k) (by omega) (.inl h32))
        have hd : decide (bt s.data.toList k < 32) = true := decide_eq_true h32
        go_wp2_with fail
        go_ret
        exact ⟨ret_bool HF.out.symm, rfl⟩
      · have hd : decide (bt s.data.toList k < 32) = false := decide_eq_false h32
        cases h127 : (bt s.data.toList k == 127)
        · have HF := Lib.hid (show ∀ j, j < k + 1 → 32 ≤ bt s.data.toList j ∧ bt s.data.toList j ≠ 127 from fun j hj => by
            by_cases e : j = k
            · subst e; rw [beq_eq_false_iff_ne] at h127; exact ⟨by omega, h127⟩
            · exact HG.out j (by omega))
          go_wp2_with fail
          exact ⟨⟨k + 1, by omega, rfl, HF⟩, by (simp only [intOf]; omega)⟩
        · have HF := Lib.hid (ink_no (l := s.data.toList) (k := k) (by omega) (.inr (by rw [beq_iff_eq] at h127; exact h127)))
          go_wp2_with fail
          go_ret
          exact ⟨ret_bool HF.out.symm, rfl⟩
    · have hdk : decide ((k : Int) < s.size) = false := decide_eq_false (by omega)
      obtain rfl : k = s.size := by omega
      have HF := Lib.hid (ink_yes (l := s.data.toList) (by rw [hsl]; exact HG.out))
      clear HG hsl
      have hub := fun W => refBadU_any s W hs
      by_cases hE : 1 ≤ s.size
      · have hdE : decide ((1 : Int) ≤ s.size) = true := decide_eq_true (by omega)
        have HE : Hid (nameB s.data.toList = (decide (s.data.toList.length ≤ 60) && decide (badU s.data.toList < 0))) := Lib.hid (by rw [HF.out, decide_eq_true (show s.data.toList ≠ [] from fun h => by rw [nil_size] at h; omega), Bool.true_and])
        clear HF
        by_cases h60 : s.size ≤ 60
        · have hd60 : decide ((s.size : Int) ≤ 60) = true := decide_eq_true (by omega)
          have HN : Hid (nameB s.data.toList = decide (badU s.data.toList < 0)) := Lib.hid (by rw [HE.out, decide_eq_true (show s.data.toList.length ≤ 60 by simpa using h60), Bool.true_and])
          clear HE
          go_wp2_with (go_at_call 35; refine (hub _).mono ?_; rintro e w1 ⟨rfl, rfl⟩)
          go_ret
          exact ⟨ret_bool HN.out.symm, rfl⟩
        · have hd60 : decide ((s.size : Int) ≤ 60) = false := decide_eq_false (by omega)
          have HN : Hid (nameB s.data.toList = false) := Lib.hid (by rw [HE.out, decide_eq_false (show ¬ s.data.toList.length ≤ 60 by simpa using h60), Bool.false_and])
          clear HE
          go_wp2_with fail
          go_ret
          exact ⟨ret_bool HN.out.symm, rfl⟩
      · have hdE : decide ((1 : Int) ≤ s.size) = false := decide_eq_false (by omega)
        have HE : Hid (nameB s.data.toList = false) := Lib.hid (by
          rw [HF.out]
          have : s.data.toList = [] := (nil_size s).2 (by omega)
          rw [decide_eq_false (fun h => h this)]; rfl)
        go_wp2_with fail
        go_ret
        exact ⟨ret_bool HE.out.symm, rfl⟩
set_option maxRecDepth 100000 in
theorem refValue_any (s : ByteArray) (w : World) (hs : s.size ≤ 4611686018427387904) :
    Calls Try.prog 23 #[.string s] w fun e w' => e = .returned (.bool (valB s.data.toList)) ∧ w = w' := by
  have hub := fun W => refBadU_any s W hs
  by_cases h60 : s.size ≤ 60
  · have hd60 : decide ((s.size : Int) ≤ 60) = true := decide_eq_true (by omega)
    have HN : Hid (valB s.data.toList = decide (badU s.data.toList < 0)) := Lib.hid (by unfold valB; rw [decide_eq_true (show s.data.toList.length ≤ 60 by simpa using h60), Bool.true_and])
    go_enter Try.func23, Try.ntmps23
    go_wp2_with (go_at_call 35; refine (hub _).mono ?_; rintro e w1 ⟨rfl, rfl⟩)
    go_ret
    exact ⟨ret_bool HN.out.symm, rfl⟩
  · have hd60 : decide ((s.size : Int) ≤ 60) = false := decide_eq_false (by omega)
    have HN : Hid (valB s.data.toList = false) := Lib.hid (by unfold valB; rw [decide_eq_false (show ¬ s.data.toList.length ≤ 60 by simpa using h60), Bool.false_and])
    go_enter Try.func23, Try.ntmps23
    go_wp2_with fail
    go_ret
    exact ⟨ret_bool HN.out.symm, rfl⟩
end Go.Proofs.Ytlolbpefeagclaa
