/- The walk of StatTells. -/
import Derived.Test.YtpknjngjkdnpiaaGreatDoorMgEvB
import Derived.Test.YtpknjngjkdnpiaaGreatDoorRf26c
import Derived.Test.YtpknjngjkdnpiaaGreatDoorSameR
import Derived.Test.YtpknjngjkdnpiaaGreatDoorStatLen
namespace Go.Proofs.YtpknjngjkdnpiaaGreatDoor
set_option linter.unusedVariables false
set_option linter.unusedSimpArgs false
open Go.RowKit
theorem HasRows.next {w w' : World} {A : Option Addr} {n : Nat} {rows : List MRow} (h : HasRows w w.heap.size A n rows) (k : Below w.heap.size w w') : HasRows w' w'.heap.size A n rows := (h.below k).more k.size
set_option maxRecDepth 100000 in
set_option maxHeartbeats 3200000 in
theorem tells26_any (s : ByteArray) (w : World) (hs : s.size ≤ 9223372036854775807) :
    Calls Tryz.prog 3 #[.string s] w fun e w' => e = .returned (.bool true) ∧ Below w.heap.size w w' := by
  by_cases h1500 : 1500 < s.size
  · have hd1 : decide ((1500 : Int) < s.size) = true := decide_eq_true (by omega)
    go_enter Tryz.func3, Tryz.ntmps3
    go_wp2_with (go_at_call 9; refine (known26_any _).mono ?_; rintro e w1 ⟨rfl, hb1⟩)
    go_ret
    exact ⟨rfl, hb1⟩
  have hd1 : decide ((1500 : Int) < s.size) = false := decide_eq_false (by omega)
  have h1500 : s.size ≤ 1500 := by omega
  have hL : s.data.toList.length = s.size := by simp
  have kB := fun W => sbad_any s W (by omega)
  have kR := fun W => srows_any s W (by omega)
  have kQ := fun W => rows26r_any s W (by omega)
  have hrow := slRows_len s.data.toList
  have hmany := slRows_many s.data.toList
  unfold statBad at kB
  generalize statRows s.data.toList = R at kB kR kQ hrow hmany
  rw [hL] at hrow hmany
  obtain ⟨R1, ra, rn⟩ := R
  simp only at hrow hmany
  clear hL
  obtain ⟨rows, bad, hok, hrl, hrow2, kR2, kQ2, kB2⟩ : ∃ (rows : List MRow) (bad : Int), ((!rn) == decide (bad < 0)) = true ∧ rows.length ≤ 1501 ∧ (∀ R ∈ rows, R.tags.length ≤ 1048576 ∧ R.fields.length ≤ 1048576) ∧
      (∀ W, Calls Tryz.prog 10 #[.string s] W fun e w' => (∃ A n c, e = .returned (.tuple #[.slice A n c, .bool (!rn)]) ∧ HasRows w' w'.heap.size A n rows) ∧ Below W.heap.size W w') ∧
      (∀ W, Calls Tryz.prog 11 #[.string s] W fun e w' => (∃ A n c, e = .returned (.tuple #[.slice A n c, .int .i64 bad]) ∧ HasRows w' w'.heap.size A n rows) ∧ Below W.heap.size W w') ∧
      (∀ W, Calls Tryz.prog 12 #[.string s] W fun e w' => e = .returned (.int .i64 bad) ∧ Below W.heap.size W w') := by
    refine ⟨_, _, ?_, ?_, ?_, kR, kQ, kB⟩
    · cases rn
      · simp
      · simp
    · cases rn
      · simp; omega
      · simp
    · intro R hR
      cases rn
      · have := hrow R (by simpa using hR)
        rw [this.2]; simp; omega
      · simp at hR
  clear kR kQ kB hrow
  have HRW := Lib.hid hrow2
  have HN : ∀ {w A n}, HasRows w w.heap.size A n rows → n ≤ 1048576 := fun h => by have := h.len; omega
  clear hmany hrow2 hrl
  obtain ⟨ok, hok1⟩ : ∃ ok, (!rn) = ok := ⟨_, rfl⟩
  obtain ⟨neg, hneg⟩ : ∃ neg, decide (bad < 0) = neg := ⟨_, rfl⟩
  rw [hok1] at kR2 hok
  rw [hneg] at hok
  obtain rfl : ok = neg := by simpa using hok
  clear hok hok1
  go_enter Tryz.func3, Tryz.ntmps3
  go_wp2_with (first
    | (go_at_call 9; refine (known26_any _).mono ?_; rintro e w1 ⟨rfl, hb1⟩)
    | (go_at_call 10; (with_reducible refine (kR2 _).mono ?_); rintro e w2 ⟨⟨A, n, c, rfl, hr⟩, hb2⟩)
    | (go_at_call 11; (with_reducible refine (kQ2 _).mono ?_); rintro e w3 ⟨⟨A2, n2, c2, rfl, hr2⟩, hb3⟩; have hr3 := hr.next hb3)
    | (go_at_call 12; (with_reducible refine (kB2 _).mono ?_); rintro e w4 ⟨rfl, hb4⟩; have hr4 := hr3.next hb4; have hr5 := hr2.next hb4)
    | (go_at_call 13; refine (sameRows_any _ _ _ _ _ _ rows _ hr4 hr5 (HN hr4) HRW.out).mono ?_; rintro e w5 ⟨rfl, hb5⟩))
  go_ret
  exact ⟨rfl, bl_any (bl_any (bl_any (bl_any hb1 hb2) hb3) hb4) hb5⟩
end Go.Proofs.YtpknjngjkdnpiaaGreatDoor
