/- The walks of the reference's Legal, of Bad and Is in both texts. -/
import Derived.Test.YtjdanidnmpigkaaCharset
namespace Go.Proofs.Ytjdanidnmpigkaa
open Go.RowKit
set_option maxHeartbeats 800000 in
theorem refLegal_10 (s : ByteArray) (i : Int) (w : World) (_h2 : s.size ≤ 9223372036854775807) (h0 : 0 ≤ i) (h1 : i < s.size) :
    Calls Try.prog 18 #[.int .i64 1, .int .i64 0, .string s, .int .i64 i] w fun e w' => e = .returned (.bool (legalB 1 0 s.data.toList i)) ∧ w = w' := by
  have Hc : Hid (∀ k : Nat, (h : k < s.size) → bt s.data.toList k = ((s[k]).toNat : Int)) := fun k h => (getElem_bt h).symm
  have Hl : Hid (i < s.data.toList.length) := by simpa [Hid] using h1
  have Hs : Hid (s.data.toList.length = s.size) := by simp [Hid]
  go_enter Try.func18, Try.ntmps18
  go_wp2_with (first
    | (go_at_call 25; refine (refLetter_any _ _).mono ?_; rintro e w1 ⟨rfl, rfl⟩)
    | (go_at_call 26; refine (refDigit_any _ _).mono ?_; rintro e w1 ⟨rfl, rfl⟩))
  all_goals go_ret
  all_goals refine ⟨ret_bool (bcl ?_), rfl⟩
  all_goals simp only [legalB, decide_eq_true_eq, h0, true_and, true_or, letterB, pointB, lineB, Bool.or_eq_true, Bool.and_eq_true, Hs.out]
  all_goals try rw [Hc.out i.toNat (by omega)]
  all_goals try rw [Hc.out (i.toNat - 1) (by omega)]
  all_goals try simp only [letterB, Bool.or_eq_true, Bool.and_eq_true, decide_eq_true_eq, Bool.false_eq_true, false_and, or_false, ne_eq, beq_iff_eq] at *
  all_goals first | omega | (simp [*]; done) | (simp; omega) | (simp [*]; omega)
set_option maxHeartbeats 800000 in
theorem refLegal_11 (s : ByteArray) (i : Int) (w : World) (h2 : s.size ≤ 9223372036854775807) (h0 : 0 ≤ i) (h1 : i < s.size) :
    Calls Try.prog 18 #[.int .i64 1, .int .i64 1, .string s, .int .i64 i] w fun e w' => e = .returned (.bool (legalB 1 1 s.data.toList i)) ∧ w = w' := by
  have Hc : Hid (∀ k : Nat, (h : k < s.size) → bt s.data.toList k = ((s[k]).toNat : Int)) := fun k h => (getElem_bt h).symm
  have Hl : Hid (i < s.data.toList.length) := by simpa [Hid] using h1
  have Hs : Hid (s.data.toList.length = s.size) := by simp [Hid]
  go_enter Try.func18, Try.ntmps18
  go_wp2_with (first
    | (go_at_call 25; refine (refLetter_any _ _).mono ?_; rintro e w1 ⟨rfl, rfl⟩)
    | (go_at_call 26; refine (refDigit_any _ _).mono ?_; rintro e w1 ⟨rfl, rfl⟩))
  all_goals go_ret
  all_goals refine ⟨ret_bool (bcl ?_), rfl⟩
  all_goals simp only [legalB, decide_eq_true_eq, h0, true_and, or_true, letterB, pointB, lineB, Bool.or_eq_true, Bool.and_eq_true, Hs.out]
  all_goals try rw [Hc.out i.toNat (by omega)]
  all_goals try rw [Hc.out (i.toNat - 1) (by omega)]
  all_goals try simp only [letterB, Bool.or_eq_true, Bool.and_eq_true, decide_eq_true_eq, Bool.false_eq_true, false_and, or_false, ne_eq, beq_iff_eq] at *
  all_goals first | omega | (simp [*]; done) | (simp; omega) | (simp [*]; omega)
set_option maxHeartbeats 800000 in
theorem refLegal_20 (s : ByteArray) (i : Int) (w : World) (_h2 : s.size ≤ 9223372036854775807) (h0 : 0 ≤ i) (h1 : i < s.size) :
    Calls Try.prog 18 #[.int .i64 2, .int .i64 0, .string s, .int .i64 i] w fun e w' => e = .returned (.bool (legalB 2 0 s.data.toList i)) ∧ w = w' := by
  have Hc : Hid (bt s.data.toList i.toNat = ((s[i.toNat]'(by omega)).toNat : Int)) := (getElem_bt (by omega)).symm
  have Hl : Hid (i < (s.data.toList.length : Int)) := by simpa [Hid] using h1
  by_cases hq : i = 0
  · have hz : (i == 0) = true := beq_iff_eq.2 hq
    have Hq := Lib.hid hq
    clear hq
    go_enter Try.func18, Try.ntmps18
    go_wp2_with fail
    all_goals go_ret
    all_goals refine ⟨ret_bool (bcl ?_), rfl⟩
    all_goals simp only [legalB, decide_eq_true_eq, Hl.out, h0, true_and, true_or, lineB, Hc.out, bne_iff_ne, ne_eq, Bool.false_eq_true, false_iff]
    all_goals (have hq := Hq.out; first | omega | (simp; omega) | (clear hq; simp [*]; omega))
  · have hz : (i == 0) = false := beq_eq_false_iff_ne.2 hq
    have hpos : 0 < i := by omega
    clear hq
    go_enter Try.func18, Try.ntmps18
    go_wp2_with fail
    all_goals go_ret
    all_goals refine ⟨ret_bool (bcl ?_), rfl⟩
    all_goals simp only [legalB, decide_eq_true_eq, Hl.out, h0, true_and, true_or, lineB, Hc.out, bne_iff_ne, ne_eq, Bool.false_eq_true, false_iff]
    all_goals first | omega | (simp; omega) | (simp [*]; omega)
set_option maxHeartbeats 800000 in
theorem refLegal_21 (s : ByteArray) (i : Int) (w : World) (_h2 : s.size ≤ 9223372036854775807) (h0 : 0 ≤ i) (h1 : i < s.size) :
    Calls Try.prog 18 #[.int .i64 2, .int .i64 1, .string s, .int .i64 i] w fun e w' => e = .returned (.bool (legalB 2 1 s.data.toList i)) ∧ w = w' := by
  have Hc : Hid (bt s.data.toList i.toNat = ((s[i.toNat]'(by omega)).toNat : Int)) := (getElem_bt (by omega)).symm
  have Hl : Hid (i < (s.data.toList.length : Int)) := by simpa [Hid] using h1
  by_cases hq : i = 0
  · have hz : (i == 0) = true := beq_iff_eq.2 hq
    have Hq := Lib.hid hq
    clear hq
    go_enter Try.func18, Try.ntmps18
    go_wp2_with fail
    all_goals go_ret
    all_goals refine ⟨ret_bool (bcl ?_), rfl⟩
    all_goals simp only [legalB, decide_eq_true_eq, Hl.out, h0, true_and, or_true, lineB, Hc.out, bne_iff_ne, ne_eq, Bool.false_eq_true, false_iff, true_iff]
    all_goals (have hq := Hq.out; first | omega | (simp; omega) | (clear hq; simp [*]; omega))
  · have hz : (i == 0) = false := beq_eq_false_iff_ne.2 hq
    have hpos : 0 < i := by omega
    clear hq
    go_enter Try.func18, Try.ntmps18
    go_wp2_with fail
    all_goals go_ret
    all_goals refine ⟨ret_bool (bcl ?_), rfl⟩
    all_goals simp only [legalB, decide_eq_true_eq, Hl.out, h0, true_and, or_true, lineB, Hc.out, bne_iff_ne, ne_eq, Bool.false_eq_true, false_iff]
    all_goals first | omega | (simp; omega) | (simp [*]; omega)
set_option maxHeartbeats 800000 in
theorem refLegal_30 (s : ByteArray) (i : Int) (w : World) (h2 : s.size ≤ 9223372036854775807) (h0 : 0 ≤ i) (h1 : i < s.size) :
    Calls Try.prog 18 #[.int .i64 3, .int .i64 0, .string s, .int .i64 i] w fun e w' => e = .returned (.bool (legalB 3 0 s.data.toList i)) ∧ w = w' := by
  have Hc : Hid (∀ k : Nat, (h : k < s.size) → bt s.data.toList k = ((s[k]).toNat : Int)) := fun k h => (getElem_bt h).symm
  have Hl : Hid (i < s.data.toList.length) := by simpa [Hid] using h1
  have Hs : Hid (s.data.toList.length = s.size) := by simp [Hid]
  go_enter Try.func18, Try.ntmps18
  go_wp2_with (first
    | (go_at_call 25; refine (refLetter_any _ _).mono ?_; rintro e w1 ⟨rfl, rfl⟩)
    | (go_at_call 26; refine (refDigit_any _ _).mono ?_; rintro e w1 ⟨rfl, rfl⟩))
  all_goals go_ret
  all_goals refine ⟨ret_bool (bcl ?_), rfl⟩
  all_goals simp only [legalB, decide_eq_true_eq, h0, true_and, true_or, letterB, pointB, lineB, Bool.or_eq_true, Bool.and_eq_true, Hs.out]
  all_goals try rw [Hc.out i.toNat (by omega)]
  all_goals try rw [Hc.out (i.toNat - 1) (by omega)]
  all_goals try simp only [letterB, Bool.or_eq_true, Bool.and_eq_true, decide_eq_true_eq, Bool.false_eq_true, false_and, or_false, bne_iff_ne, ne_eq, beq_iff_eq, beq_eq_false_iff_ne] at *
  all_goals first | omega | (simp [*]; done) | (simp; omega) | (simp [*]; omega)
set_option maxHeartbeats 800000 in
theorem refLegal_31 (s : ByteArray) (i : Int) (w : World) (_h2 : s.size ≤ 9223372036854775807) (h0 : 0 ≤ i) (h1 : i < s.size) :
    Calls Try.prog 18 #[.int .i64 3, .int .i64 1, .string s, .int .i64 i] w fun e w' => e = .returned (.bool (legalB 3 1 s.data.toList i)) ∧ w = w' := by
  have Hc : Hid (∀ k : Nat, (h : k < s.size) → bt s.data.toList k = ((s[k]).toNat : Int)) := fun k h => (getElem_bt h).symm
  have Hl : Hid (i < s.data.toList.length) := by simpa [Hid] using h1
  have Hs : Hid (s.data.toList.length = s.size) := by simp [Hid]
  go_enter Try.func18, Try.ntmps18
  go_wp2_with (first
    | (go_at_call 25; refine (refLetter_any _ _).mono ?_; rintro e w1 ⟨rfl, rfl⟩)
    | (go_at_call 26; refine (refDigit_any _ _).mono ?_; rintro e w1 ⟨rfl, rfl⟩))
  all_goals go_ret
  all_goals refine ⟨ret_bool (bcl ?_), rfl⟩
  all_goals simp only [legalB, decide_eq_true_eq, h0, true_and, or_true, letterB, pointB, lineB, Bool.or_eq_true, Bool.and_eq_true, Hs.out]
  all_goals try rw [Hc.out i.toNat (by omega)]
  all_goals try rw [Hc.out (i.toNat - 1) (by omega)]
  all_goals try simp only [letterB, Bool.or_eq_true, Bool.and_eq_true, decide_eq_true_eq, Bool.false_eq_true, false_and, or_false, ne_eq, beq_iff_eq, beq_eq_false_iff_ne] at *
  all_goals first | omega | (simp [*]; done) | (simp; omega) | (simp [*]; omega)
set_option maxHeartbeats 800000 in
theorem refLegal_40 (s : ByteArray) (i : Int) (w : World) (_h2 : s.size ≤ 9223372036854775807) (h0 : 0 ≤ i) (h1 : i < s.size) :
    Calls Try.prog 18 #[.int .i64 4, .int .i64 0, .string s, .int .i64 i] w fun e w' => e = .returned (.bool (legalB 4 0 s.data.toList i)) ∧ w = w' := by
  have Hc : Hid (∀ k : Nat, (h : k < s.size) → bt s.data.toList k = ((s[k]).toNat : Int)) := fun k h => (getElem_bt h).symm
  have Hl : Hid (i < s.data.toList.length) := by simpa [Hid] using h1
  have Hs : Hid (s.data.toList.length = s.size) := by simp [Hid]
  go_enter Try.func18, Try.ntmps18
  go_wp2_with (first
    | (go_at_call 25; refine (refLetter_any _ _).mono ?_; rintro e w1 ⟨rfl, rfl⟩)
    | (go_at_call 26; refine (refDigit_any _ _).mono ?_; rintro e w1 ⟨rfl, rfl⟩))
  all_goals go_ret
  all_goals refine ⟨ret_bool (bcl ?_), rfl⟩
  all_goals simp only [legalB, decide_eq_true_eq, h0, true_and, true_or, letterB, pointB, lineB, Bool.or_eq_true, Bool.and_eq_true, Hs.out]
  all_goals try rw [Hc.out i.toNat (by omega)]
  all_goals try rw [Hc.out (i.toNat - 1) (by omega)]
  all_goals try simp only [letterB, Bool.or_eq_true, Bool.and_eq_true, decide_eq_true_eq, Bool.false_eq_true, false_and, or_false, ne_eq, beq_iff_eq] at *
  all_goals first | omega | (simp [*]; done) | (simp; omega) | (simp [*]; omega)
set_option maxHeartbeats 800000 in
theorem refLegal_41 (s : ByteArray) (i : Int) (w : World) (_h2 : s.size ≤ 9223372036854775807) (h0 : 0 ≤ i) (h1 : i < s.size) :
    Calls Try.prog 18 #[.int .i64 4, .int .i64 1, .string s, .int .i64 i] w fun e w' => e = .returned (.bool (legalB 4 1 s.data.toList i)) ∧ w = w' := by
  have Hc : Hid (∀ k : Nat, (h : k < s.size) → bt s.data.toList k = ((s[k]).toNat : Int)) := fun k h => (getElem_bt h).symm
  have Hl : Hid (i < s.data.toList.length) := by simpa [Hid] using h1
  have Hs : Hid (s.data.toList.length = s.size) := by simp [Hid]
  go_enter Try.func18, Try.ntmps18
  go_wp2_with (first
    | (go_at_call 25; refine (refLetter_any _ _).mono ?_; rintro e w1 ⟨rfl, rfl⟩)
    | (go_at_call 26; refine (refDigit_any _ _).mono ?_; rintro e w1 ⟨rfl, rfl⟩))
  all_goals go_ret
  all_goals refine ⟨ret_bool (bcl ?_), rfl⟩
  all_goals simp only [legalB, decide_eq_true_eq, h0, true_and, or_true, letterB, pointB, lineB, Bool.or_eq_true, Bool.and_eq_true, Hs.out]
  all_goals try rw [Hc.out i.toNat (by omega)]
  all_goals try rw [Hc.out (i.toNat - 1) (by omega)]
  all_goals try simp only [letterB, Bool.or_eq_true, Bool.and_eq_true, decide_eq_true_eq, Bool.false_eq_true, false_and, or_false, ne_eq, beq_iff_eq] at *
  all_goals first | omega | (simp [*]; done) | (simp; omega) | (simp [*]; omega)
theorem refLegal_any (p wh : Int) (s : ByteArray) (i : Int) (w : World) (h2 : s.size ≤ 9223372036854775807) :
    Calls Try.prog 18 #[.int .i64 p, .int .i64 wh, .string s, .int .i64 i] w fun e w' => e = .returned (.bool (legalB p wh s.data.toList i)) ∧ w = w' := by
  by_cases hin : 0 ≤ i ∧ i < s.size ∧ (wh = 0 ∨ wh = 1)
  · obtain ⟨h0, h1, hwh⟩ := hin
    by_cases hp : p = 1 ∨ p = 2 ∨ p = 3 ∨ p = 4
    · rcases hp with rfl | rfl | rfl | rfl <;> rcases hwh with rfl | rfl
      · exact refLegal_10 s i w h2 h0 h1
      · exact refLegal_11 s i w h2 h0 h1
      · exact refLegal_20 s i w h2 h0 h1
      · exact refLegal_21 s i w h2 h0 h1
      · exact refLegal_30 s i w h2 h0 h1
      · exact refLegal_31 s i w h2 h0 h1
      · exact refLegal_40 s i w h2 h0 h1
      · exact refLegal_41 s i w h2 h0 h1
    · have hp' : ¬ p = 1 ∧ ¬ p = 2 ∧ ¬ p = 3 ∧ ¬ p = 4 := by omega
      obtain ⟨p1, p2, p3, p4⟩ := hp'
      clear hp
      rcases hwh with rfl | rfl
      all_goals
        go_enter Try.func18, Try.ntmps18
        go_wp2_with fail
        go_ret
        exact ⟨ret_bool (bcl (by simp [legalB, p1, p2, p3, p4])), rfl⟩
  · have Hq : Hid (legalB p wh s.data.toList i = false) := legal_out _ _ _ _ (by simpa using hin)
    go_enter Try.func18, Try.ntmps18
    by_cases hi : i < 0
    · clear hin
      go_wp2_with fail
      go_ret
      exact ⟨ret_bool (by rw [Hq.out]), rfl⟩
    · by_cases hs : i < s.size
      · have hw0 : ¬ wh = 0 := by omega
        have hw1 : ¬ wh = 1 := by omega
        have hb0 : (wh != 0) = true := by simpa using hw0
        have hb1 : (wh != 1) = true := by simpa using hw1
        have hsi : decide ((s.size : Int) ≤ i) = false := by simpa using hs
        clear hin
        go_wp2_with fail
        go_ret
        exact ⟨ret_bool (by rw [Hq.out]), rfl⟩
      · clear hin
        go_wp2_with fail
        go_ret
        exact ⟨ret_bool (by rw [Hq.out]), rfl⟩

end Go.Proofs.Ytjdanidnmpigkaa
