/- The walks of Bad and Is in both texts. -/
import Derived.Test.YtjdanidnmpigkaaCharset2
namespace Go.Proofs.Ytjdanidnmpigkaa
open Go.RowKit
def badFrom (p wh : Int) (l : List UInt8) : Nat → Nat → Int
  | 0, _ => -1
  | n + 1, i => if legalB p wh l i = true then badFrom p wh l n (i + 1) else i
/-- The first byte that may not stand there; -1: there is none. -/
def badB (p wh : Int) (l : List UInt8) : Int := badFrom p wh l l.length 0
theorem badFrom_ge (p wh : Int) (l : List UInt8) : ∀ n i, -1 ≤ badFrom p wh l n i := by
  intro n
  induction n with
  | zero => intro i; simp [badFrom]
  | succ n ih => intro i; unfold badFrom; split; exact ih _; omega
theorem badB_out (p wh : Int) (l : List UInt8) (h : p < 1 ∨ 4 < p ∨ (¬ wh = 0 ∧ ¬ wh = 1)) (hl : l ≠ []) : badB p wh l = 0 := by
  cases l with
  | nil => exact absurd rfl hl
  | cons a l =>
    unfold badB
    rw [List.length_cons, badFrom, if_neg]
    · rfl
    · simp only [legalB, decide_eq_true_eq]; omega
theorem list_ne (s : ByteArray) : s.data.toList ≠ [] ↔ 1 ≤ s.size := by
  rw [Lib.size_eq]; cases s.data.toList <;> simp
def isB (p wh : Int) (l : List UInt8) : Bool := decide (l ≠ [] ∧ l.length ≤ 60 ∧ badB p wh l < 0)

set_option maxHeartbeats 800000 in
theorem bad_any (p wh : Int) (s : ByteArray) (w : World) (h2 : s.size ≤ 9223372036854775807) :
    Calls Try.prog 13 #[.int .i64 p, .int .i64 wh, .string s] w fun e w' => e = .returned (.int .i64 (badB p wh s.data.toList)) ∧ Below w.heap.size w w' := by
  go_enter Try.func13, Try.ntmps13
  go_wp2_with fail
  go_loopw [10] (fun i wr => ∃ k : Nat, k ≤ s.size ∧ i = .int .i64 k ∧ badB p wh s.data.toList = badFrom p wh s.data.toList (s.size - k) k ∧ Below w.heap.size w wr) (fun i _ => s.size - (intOf i).toNat)
  case atStart => exact ⟨0, by omega, rfl, by simp [badB], Below.refl _ _⟩
  case round =>
    obtain ⟨k, hk, rfl, hb0, hbel⟩ := hrel
    have Hb := Lib.hid hb0
    clear hb0
    by_cases hlt : k < s.size
    · by_cases hg : legalB p wh s.data.toList k = true
      · have Hs : Hid (badFrom p wh s.data.toList (s.size - k) k = badFrom p wh s.data.toList (s.size - (k + 1)) (k + 1)) := by
          rw [show s.size - k = (s.size - (k + 1)) + 1 from by omega]; simp [badFrom, hg, Hid]
        go_wp2_with (go_at_call 17; refine (legal_any _ _ _ _ _ h2).mono ?_; rintro e w1 ⟨rfl, hb1⟩)
        go_roundw
        case rel => exact ⟨k + 1, by omega, by go_num, by rw [Hb.out, Hs.out], hbel.trans (hb1.mono hbel.size)⟩
        case measure => simp [intOf]; omega
      · have Hs : Hid (badFrom p wh s.data.toList (s.size - k) k = k) := by
          rw [show s.size - k = (s.size - (k + 1)) + 1 from by omega]; simp [badFrom, hg, Hid]
        go_wp2_with (go_at_call 17; refine (legal_any _ _ _ _ _ h2).mono ?_; rintro e w1 ⟨rfl, hb1⟩)
        go_ret
        exact ⟨ret_int (by rw [Hb.out, Hs.out]), hbel.trans (hb1.mono hbel.size)⟩
    · have Hs : Hid (badFrom p wh s.data.toList (s.size - k) k = -1) := by
        rw [show s.size - k = 0 from by omega]; simp [badFrom, Hid]
      go_wp2_with fail
      go_ret
      exact ⟨ret_int (by rw [Hb.out, Hs.out]), hbel⟩
end Go.Proofs.Ytjdanidnmpigkaa
