/- The walk of LineTells. -/
import Derived.Test.YtdngieihlcknmaaL20a
import Derived.Test.YtdngieihlcknmaaRefN
import Derived.Test.YtdngieihlcknmaaSameR
import Derived.Test.YtdngieihlcknmaaLineLen
namespace Go.Proofs.Ytdngieihlcknmaa
set_option linter.unusedVariables false
set_option linter.unusedSimpArgs false
open Go.RowKit
theorem HasRows.next {w w' : World} {A : Option Addr} {n : Nat} {rows : List MRow} (h : HasRows w w.heap.size A n rows) (k : Below w.heap.size w w') : HasRows w' w'.heap.size A n rows := (h.below k).more k.size
set_option maxRecDepth 100000 in
set_option maxHeartbeats 3200000 in
theorem tells20_any (s v : ByteArray) (w : World) (hs : s.size ≤ 9223372036854775807) (hv : v.size ≤ 9223372036854775807) :
    Calls Try.prog 3 #[.string s, .string v] w fun e w' => e = .returned (.bool true) ∧ Below w.heap.size w w' := by
  by_cases hbig : 1500 < s.size ∨ 300 < v.size
  · by_cases h1500 : 1500 < s.size
    · have hd1 : decide ((1500 : Int) < s.size) = true := decide_eq_true (by omega)
      go_enter Try.func3, Try.ntmps3
      go_wp2_with (go_at_call 8; refine (known20_any _).mono ?_; rintro e w1 ⟨rfl, hb1⟩)
      go_ret
      exact ⟨rfl, hb1⟩
    · have hd1 : decide ((1500 : Int) < s.size) = false := decide_eq_false (by omega)
      have hd2 : decide ((300 : Int) < v.size) = true := decide_eq_true (by omega)
      go_enter Try.func3, Try.ntmps3
      go_wp2_with (go_at_call 8; refine (known20_any _).mono ?_; rintro e w1 ⟨rfl, hb1⟩)
      go_ret
      exact ⟨rfl, hb1⟩
  have hd1 : decide ((1500 : Int) < s.size) = false := decide_eq_false (by omega)
  have hd2 : decide ((300 : Int) < v.size) = false := decide_eq_false (by omega)
  have h1500 : s.size ≤ 1500 := by omega
  have h300 : v.size ≤ 300 := by omega
  clear hbig
  have hL : s.data.toList.length = s.size := by simp
  have kB := fun W => bad_any' s W (by omega)
  have kR := fun W => rows_any s W (by omega)
  have kQ := fun W => rows20_any s W (by omega)
  have hrow := lineRows_len s.data.toList
  have hmany := lineRows_many s.data.toList
  unfold lineBad at kB
  generalize lineRows s.data.toList = R at kB kR kQ hrow hmany
  rw [hL] at hrow hmany
  obtain ⟨R1, ra, rn⟩ := R
  simp only at hrow hmany
  have k1 := fun W => measure_any v W (by omega)
  have k2 := fun W => key_any v W (by omega)
  have k3 := fun W => quote_any v W (by omega)
  have q1 : ∀ W, Calls Try.prog 14 #[.string v, .string ⟨#[44, 32]⟩] W fun e w' => e = .returned (.string (mkS (markL [44, 32] v.data.toList))) ∧ w' = W := fun W => quote20_any v ⟨#[44, 32]⟩ W (by omega) (by decide)
  have q2 : ∀ W, Calls Try.prog 14 #[.string v, .string ⟨#[44, 32, 61]⟩] W fun e w' => e = .returned (.string (mkS (markL [44, 32, 61] v.data.toList))) ∧ w' = W := fun W => quote20_any v ⟨#[44, 32, 61]⟩ W (by omega) (by decide)
  have q3 : ∀ W, Calls Try.prog 14 #[.string v, .string ⟨#[34, 92]⟩] W fun e w' => e = .returned (.string (mkS (markL [34, 92] v.data.toList))) ∧ w' = W := fun W => quote20_any v ⟨#[34, 92]⟩ W (by omega) (by decide)
  generalize mkS (markL [44, 32] v.data.toList) = V1 at k1 q1
  generalize mkS (markL [44, 32, 61] v.data.toList) = V2 at k2 q2
  generalize mkS (markL [34, 92] v.data.toList) = V3 at k3 q3
  clear hL
  obtain ⟨rows, bad, hok, hrl, hrow2, kR2, kQ2, kB2⟩ : ∃ (rows : List MRow) (bad : Int), ((!rn) == decide (bad < 0)) = true ∧ rows.length ≤ 1501 ∧ (∀ R ∈ rows, R.tags.length ≤ 1048576 ∧ R.fields.length ≤ 1048576) ∧
      (∀ W, Calls Try.prog 9 #[.string s] W fun e w' => (∃ A n c, e = .returned (.tuple #[.slice A n c, .bool (!rn)]) ∧ HasRows w' w'.heap.size A n rows) ∧ Below W.heap.size W w') ∧
      (∀ W, Calls Try.prog 10 #[.string s] W fun e w' => (∃ A n c, e = .returned (.tuple #[.slice A n c, .int .i64 bad]) ∧ HasRows w' w'.heap.size A n rows) ∧ Below W.heap.size W w') ∧
      (∀ W, Calls Try.prog 11 #[.string s] W fun e w' => e = .returned (.int .i64 bad) ∧ Below W.heap.size W w') := by
    refine ⟨_, _, ?_, ?_, ?_, kR, kQ, kB⟩
    · cases rn
      · simp
      · simp
    · cases rn
      · simp; omega
      · simp
    · intro R hR
      cases rn
      · have := hrow R (by simpa using hR)
        omega
      · simp at hR
  clear kR kQ kB hrow
  have HRW := Lib.hid hrow2
  have HN : ∀ {w A n}, HasRows w w.heap.size A n rows → n ≤ 1048576 := fun h => by have := h.len; omega
  clear hmany hrow2 hrl
  obtain ⟨ok, hok1⟩ : ∃ ok, (!rn) = ok := ⟨_, rfl⟩
  obtain ⟨neg, hneg⟩ : ∃ neg, decide (bad < 0) = neg := ⟨_, rfl⟩
  rw [hok1] at kR2 hok
  rw [hneg] at hok
  obtain rfl : ok = neg := by simpa using hok
  clear hok hok1
  go_enter Try.func3, Try.ntmps3
  go_wp2_with (first
    | (go_at_call 8; refine (known20_any _).mono ?_; rintro e w1 ⟨rfl, hb1⟩)
    | (go_at_call 9; (with_reducible refine (kR2 _).mono ?_); rintro e w2 ⟨⟨A, n, c, rfl, hr⟩, hb2⟩)
    | (go_at_call 10; (with_reducible refine (kQ2 _).mono ?_); rintro e w3 ⟨⟨A2, n2, c2, rfl, hr2⟩, hb3⟩; have hr3 := hr.next hb3)
    | (go_at_call 11; (with_reducible refine (kB2 _).mono ?_); rintro e w4 ⟨rfl, hb4⟩; have hr4 := hr3.next hb4; have hr5 := hr2.next hb4)
    | (go_at_call 12; refine (sameRows_any _ _ _ _ _ _ rows _ hr4 hr5 (HN hr4) HRW.out).mono ?_; rintro e w5 ⟨rfl, hb5⟩)
    | (go_at_call 13; (with_reducible refine (k1 _).mono ?_); rintro e w6 ⟨rfl, hb6⟩)
    | (go_at_call 14; (with_reducible refine (q1 _).mono ?_); rintro e w9 ⟨rfl, rfl⟩)
    | (go_at_call 15; (with_reducible refine (k2 _).mono ?_); rintro e w7 ⟨rfl, hb7⟩)
    | (go_at_call 14; (with_reducible refine (q2 _).mono ?_); rintro e w9 ⟨rfl, rfl⟩)
    | (go_at_call 16; (with_reducible refine (k3 _).mono ?_); rintro e w8 ⟨rfl, hb8⟩)
    | (go_at_call 14; (with_reducible refine (q3 _).mono ?_); rintro e w9 ⟨rfl, rfl⟩))
  go_ret
  exact ⟨rfl, bl_any (bl_any (bl_any (bl_any (bl_any (bl_any (bl_any hb1 hb2) hb3) hb4) hb5) hb6) hb7) hb8⟩
end Go.Proofs.Ytdngieihlcknmaa
