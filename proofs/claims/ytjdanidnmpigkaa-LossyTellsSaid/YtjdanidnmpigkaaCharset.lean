/- The walks of package charset and of the reference's Legal, Bad, Is: each returns what the plain function beside it says. -/
import Derived.Test.YtjdanidnmpigkaaRows
import Derived.Test.YtjdanidnmpigkaaShelfA
import Derived.Test.YtjdanidnmpigkaaAux
import Derived.WalkKit
import Derived.WalkSpells
import Derived.WalkLawsBesides
namespace Go.Proofs.Ytjdanidnmpigkaa
open Go.RowKit
def within (c a0 b0 a1 b1 a2 b2 : Int) : Bool := decide (a0 ≤ c) && decide (c ≤ b0) || decide (a1 ≤ c) && decide (c ≤ b1) || decide (a2 ≤ c) && decide (c ≤ b2)
def letterB (c : Int) (d : Bool) : Bool := decide (97 ≤ c) && decide (c ≤ 122) || decide (65 ≤ c) && decide (c ≤ 90) || d && (decide (48 ≤ c) && decide (c ≤ 57))
def pointB (l : List UInt8) (i : Int) : Bool := decide (0 < i ∧ i < l.length - 1 ∧ bt l (i.toNat - 1) ≠ 46)
def lineB (wh : Int) (l : List UInt8) (i : Int) : Bool :=
  decide (32 ≤ bt l i.toNat ∧ bt l i.toNat ≤ 126 ∧ bt l i.toNat ≠ 92 ∧ (bt l i.toNat ≠ 35 ∨ 0 < i ∨ wh = 1))
/-- May the byte stand there: the document's Legal. -/
def legalB (p wh : Int) (l : List UInt8) (i : Int) : Bool :=
  decide (0 ≤ i ∧ i < l.length ∧ (wh = 0 ∨ wh = 1) ∧
    ((p = 1 ∧ (letterB (bt l i.toNat) (decide (0 < i)) = true ∨ bt l i.toNat = 95 ∨ (bt l i.toNat = 58 ∧ wh = 0))) ∨
     (p = 2 ∧ lineB wh l i = true) ∨
     (p = 3 ∧ (letterB (bt l i.toNat) true = true ∨ bt l i.toNat = 95 ∨ bt l i.toNat = 45 ∨ bt l i.toNat = 58 ∨ (bt l i.toNat = 46 ∧ wh = 0 ∧ pointB l i = true))) ∨
     (p = 4 ∧ (letterB (bt l i.toNat) true = true ∨ bt l i.toNat = 95 ∨ bt l i.toNat = 45 ∨ bt l i.toNat = 46))))

set_option maxHeartbeats 400000 in
theorem within_any (c a0 b0 a1 b1 a2 b2 : Int) (w : World)  :
    Calls Try.prog 38 #[.int .u8 c, .agg #[.int .u8 a0, .int .u8 b0, .int .u8 a1, .int .u8 b1, .int .u8 a2, .int .u8 b2]] w fun e w' => e = .returned (.bool (within c a0 b0 a1 b1 a2 b2)) ∧ Below w.heap.size w w' := by
  have i0 : ∀ w, (Instr.index 64 (.agg #[.int .u8 a0, .int .u8 b0, .int .u8 a1, .int .u8 b1, .int .u8 a2, .int .u8 b2]) (.int .i64 0)).run Try.prog w = .ok (.agg #[.int .u8 a0, .int .u8 b0]) w := fun _ => by kernel_rfl
  have i1 : ∀ w, (Instr.index 64 (.agg #[.int .u8 a0, .int .u8 b0, .int .u8 a1, .int .u8 b1, .int .u8 a2, .int .u8 b2]) (.int .i64 1)).run Try.prog w = .ok (.agg #[.int .u8 a1, .int .u8 b1]) w := fun _ => by kernel_rfl
  have i2 : ∀ w, (Instr.index 64 (.agg #[.int .u8 a0, .int .u8 b0, .int .u8 a1, .int .u8 b1, .int .u8 a2, .int .u8 b2]) (.int .i64 2)).run Try.prog w = .ok (.agg #[.int .u8 a2, .int .u8 b2]) w := fun _ => by kernel_rfl
  go_enter Try.func38, Try.ntmps38
  go_wp2_with fail
  refine wp_loop_rounds 4 ?_; rw [rounds_succ]
  go_wp2_with fail
  all_goals try (rw [rounds_succ]; go_wp2_with fail)
  all_goals try (rw [rounds_succ]; go_wp2_with fail)
  all_goals try (rw [rounds_succ]; go_wp2_with fail)
  all_goals go_ret
  all_goals refine ⟨ret_bool (bcl ?_), ?_⟩
  all_goals first | (simp [within] ; done) | (simp [within]; omega) | (repeat (first | exact Below.refl _ _ | refine Below.drew ?_ | refine Below.alloc ?_ (by simp <;> omega) _ | refine Below.setCell ?_ (by simp <;> omega) _))

set_option maxHeartbeats 400000 in
theorem letter_any (c : Int) (d : Bool) (w : World) :
    Calls Try.prog 21 #[.int .u8 c, .bool d] w fun e w' => e = .returned (.bool (letterB c d)) ∧ Below w.heap.size w w' := by
  cases d
  all_goals
    go_enter Try.func21, Try.ntmps21
    go_wp2_with (go_at_call 38; refine (within_any _ _ _ _ _ _ _ _).mono ?_; rintro e w1 ⟨rfl, hb⟩)
    go_ret
    refine ⟨ret_bool (bcl ?_), ?_⟩
    simp only [within, letterB, Bool.or_eq_true, Bool.and_eq_true, decide_eq_true_eq, Bool.false_eq_true, false_and, or_false, true_and]; try omega
    exact ((Below.refl _ _).alloc (by simp) _).trans (hb.mono (by simp))

set_option maxHeartbeats 400000 in
theorem point_any (s : ByteArray) (i : Int) (w : World) (h0 : 0 ≤ i) (h1 : i < s.size) (h2 : s.size ≤ 9223372036854775807) :
    Calls Try.prog 24 #[.string s, .int .i64 i] w fun e w' => e = .returned (.bool (pointB s.data.toList i)) ∧ w = w' := by
  have Hc : Hid (∀ k : Nat, (h : k < s.size) → ((s[k]).toNat : Int) = bt s.data.toList k) := fun k h => getElem_bt h
  go_enter Try.func24, Try.ntmps24
  go_wp2_with fail
  all_goals go_ret
  all_goals refine ⟨ret_bool (bcl ?_), rfl⟩
  all_goals try rw [Hc.out _ (by omega)]
  all_goals first | (simp [pointB]; done) | (simp [pointB]; omega)

set_option maxHeartbeats 400000 in
theorem line_any (wh : Int) (s : ByteArray) (i : Int) (w : World) (h0 : 0 ≤ i) (h1 : i < s.size) (h2 : s.size ≤ 9223372036854775807) :
    Calls Try.prog 22 #[.int .i64 wh, .string s, .int .i64 i] w fun e w' => e = .returned (.bool (lineB wh s.data.toList i)) ∧ w = w' := by
  have Hc : Hid (bt s.data.toList i.toNat = ((s[i.toNat]'(by omega)).toNat : Int)) := (getElem_bt (by omega)).symm
  go_enter Try.func22, Try.ntmps22
  go_wp2_with fail
  all_goals go_ret
  all_goals refine ⟨ret_bool (bcl ?_), rfl⟩
  all_goals unfold lineB
  all_goals rw [Hc.out]
  all_goals first | (simp; done) | (simp; omega)

theorem legal_out (p wh : Int) (l : List UInt8) (i : Int) (h : ¬ (0 ≤ i ∧ i < l.length ∧ (wh = 0 ∨ wh = 1))) : legalB p wh l i = false := by
  unfold legalB; rw [decide_eq_false_iff_not]; rintro ⟨a, b, c, _⟩; exact h ⟨a, b, c⟩

set_option maxHeartbeats 800000 in
theorem legal_any (p wh : Int) (s : ByteArray) (i : Int) (w : World) (h2 : s.size ≤ 9223372036854775807) :
    Calls Try.prog 17 #[.int .i64 p, .int .i64 wh, .string s, .int .i64 i] w fun e w' => e = .returned (.bool (legalB p wh s.data.toList i)) ∧ Below w.heap.size w w' := by
  by_cases hin : 0 ≤ i ∧ i < s.size ∧ (wh = 0 ∨ wh = 1)
  · obtain ⟨h0, h1, hwh⟩ := hin
    have Hc : Hid (bt s.data.toList i.toNat = ((s[i.toNat]'(by omega)).toNat : Int)) := (getElem_bt (by omega)).symm
    have Hl : Hid (i < s.data.toList.length) := by simpa [Hid] using h1
    by_cases hp : p = 1 ∨ p = 2 ∨ p = 3 ∨ p = 4
    · have hx := indexByte3 95 45 58 95 45 58 (s[i.toNat]'(by omega)) rfl rfl rfl
      have hy := indexByte3 95 45 46 95 45 46 (s[i.toNat]'(by omega)) rfl rfl rfl
      have Hx := Lib.hid hx
      have Hy := Lib.hid hy
      have Hx' := Lib.hid (Int.not_le.symm.trans (not_congr hx))
      have Hy' := Lib.hid (Int.not_le.symm.trans (not_congr hy))
      clear hx hy
      rcases hp with rfl | rfl | rfl | rfl <;> rcases hwh with rfl | rfl
      all_goals
        go_enter Try.func17, Try.ntmps17
        go_wp2_with (first
          | (go_at_call 21; refine (letter_any _ _ _).mono ?_; rintro e w1 ⟨rfl, hb⟩)
          | (go_at_call 22; refine (line_any _ _ _ _ h0 h1 h2).mono ?_; rintro e w1 ⟨rfl, rfl⟩)
          | (go_at_call 24; refine (point_any _ _ _ h0 h1 h2).mono ?_; rintro e w1 ⟨rfl, rfl⟩)
          | (go_at_call 23; refine (Try.strings_IndexByte _ _ _).mono ?_; rintro e w1 ⟨rfl, rfl⟩))
        all_goals go_ret
        all_goals refine ⟨ret_bool (bcl ?_), by first | assumption | exact Below.refl _ _⟩
        all_goals simp only [legalB, decide_eq_true_eq, Hc.out, h0, Hl.out, true_and, true_or, or_true]
        all_goals try simp only [Hx.out, Hy.out, Hx'.out, Hy'.out] at *
        all_goals first | (simp [*]; done) | (simp [*, letterB]; done) | (simp; omega)
    · have hp' : ¬ p = 1 ∧ ¬ p = 2 ∧ ¬ p = 3 ∧ ¬ p = 4 := by omega
      obtain ⟨p1, p2, p3, p4⟩ := hp'
      clear hp
      rcases hwh with rfl | rfl
      all_goals
        go_enter Try.func17, Try.ntmps17
        go_wp2_with fail
        go_ret
        exact ⟨ret_bool (bcl (by simp [legalB, p1, p2, p3, p4])), Below.refl _ _⟩
  · have Hq : Hid (legalB p wh s.data.toList i = false) := legal_out _ _ _ _ (by simpa using hin)
    go_enter Try.func17, Try.ntmps17
    by_cases hi : i < 0
    · clear hin
      go_wp2_with fail
      go_ret
      exact ⟨ret_bool (by rw [Hq.out]), Below.refl _ _⟩
    · by_cases hs : i < s.size
      · have hw0 : ¬ wh = 0 := by omega
        have hw1 : ¬ wh = 1 := by omega
        have hb0 : (wh != 0) = true := by simpa using hw0
        have hb1 : (wh != 1) = true := by simpa using hw1
        have hsi : decide ((s.size : Int) ≤ i) = false := by simpa using hs
        clear hin
        go_wp2_with fail
        go_ret
        exact ⟨ret_bool (by rw [Hq.out]), Below.refl _ _⟩
      · clear hin
        go_wp2_with fail
        go_ret
        exact ⟨ret_bool (by rw [Hq.out]), Below.refl _ _⟩

/-! ### the reference -/
set_option maxHeartbeats 400000 in
theorem refLetter_any (c : Int) (w : World) :
    Calls Try.prog 25 #[.int .u8 c] w fun e w' => e = .returned (.bool (letterB c false)) ∧ w = w' := by
  go_enter Try.func25, Try.ntmps25
  go_wp2_with fail
  all_goals go_ret
  all_goals refine ⟨ret_bool (bcl ?_), rfl⟩
  all_goals simp [letterB]
  all_goals try omega
set_option maxHeartbeats 400000 in
theorem refDigit_any (c : Int) (w : World) :
    Calls Try.prog 26 #[.int .u8 c] w fun e w' => e = .returned (.bool (decide (48 ≤ c ∧ c ≤ 57))) ∧ w = w' := by
  go_enter Try.func26, Try.ntmps26
  go_wp2_with fail
  all_goals go_ret
  all_goals refine ⟨ret_bool (bcl ?_), rfl⟩
  all_goals simp
  all_goals try omega
end Go.Proofs.Ytjdanidnmpigkaa
