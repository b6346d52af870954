/- The walk of DotsFar. -/
import Derived.Test.YtoplengednoldaaGreatDoorMgRd8
import Derived.Test.YtoplengednoldaaGreatDoorOpenStr
namespace Go.Proofs.YtoplengednoldaaGreatDoor
set_option linter.unusedVariables false
set_option linter.unusedSimpArgs false
open Go.RowKit
theorem knB (s : ByteArray) (k : Int) (h : dotBad s.data.toList = k) (hs : s.size ≤ 1048576) (w : World) : Calls Tryz.prog 11 #[.string s] w fun e w' => e = .returned (.int .i64 k) ∧ Below w.heap.size w w' := by
  rw [← h]; exact dbad_any s w hs
theorem str_app (a b : ByteArray) : (a ++ b).data.toList = a.data.toList ++ b.data.toList := by
  rw [ByteArray.data_append]; simp
theorem far_at {s : ByteArray} {k : Nat} (h : dotBad s.data.toList = (k : Int)) (hk : k < s.size) (e : ByteArray) : dotBad (s.extract 0 (k + 1) ++ e).data.toList = k := by
  rw [str_app, ext_bytes, List.drop_zero, Nat.sub_zero]
  exact dotBad_far h (by simpa using hk) _
theorem pre_at {s : ByteArray} {k : Nat} (h : dotBad s.data.toList = (k : Int)) : dotBad (s.extract 0 k).data.toList = k ∨ dotBad (s.extract 0 k).data.toList = -1 := by
  rw [ext_bytes, List.drop_zero, Nat.sub_zero]
  exact dotBad_pre h
theorem twice_at {s : ByteArray} (h : dotBad s.data.toList = -1) : dotBad (s ++ s).data.toList = -1 := by
  rw [str_app]; exact dotBad_twice h
set_option maxRecDepth 100000 in
set_option maxHeartbeats 3200000 in
theorem far24_any (s : ByteArray) (A : Option Addr) (n cap : Nat) (xs : List ByteArray) (m : Int) (w : World) (hm : MxAt w m) (hl : IsRows strCell 1 w w.heap.size A n xs) (hn : n ≤ 9223372036854775807) (hs : s.size ≤ 9223372036854775807) :
    Calls Tryz.prog 4 #[.string s, .slice A n cap] w fun e w' => e = .returned (.bool true) ∧ Below w.heap.size w w' := by
  have kK := known24_any m w hm
  by_cases hbig : 1000 < s.size ∨ 8 < n
  · by_cases h1000 : 1000 < s.size
    · have hd1 : decide ((1000 : Int) < s.size) = true := decide_eq_true (by omega)
      go_enter Tryz.func4, Tryz.ntmps4
      go_wp2_with (go_at_call 8; (with_reducible refine kK.mono ?_); rintro e w1 ⟨rfl, hb1⟩)
      go_ret
      exact ⟨rfl, hb1⟩
    · have hd1 : decide ((1000 : Int) < s.size) = false := decide_eq_false (by omega)
      have hd2 : decide ((8 : Int) < n) = true := decide_eq_true (by omega)
      go_enter Tryz.func4, Tryz.ntmps4
      go_wp2_with (go_at_call 8; (with_reducible refine kK.mono ?_); rintro e w1 ⟨rfl, hb1⟩)
      go_ret
      exact ⟨rfl, hb1⟩
  have hd1 : decide ((1000 : Int) < s.size) = false := decide_eq_false (by omega)
  have hd2 : decide ((8 : Int) < n) = false := decide_eq_false (by omega)
  have h1000 : s.size ≤ 1000 := by omega
  have h8 : n ≤ 8 := by omega
  clear hbig
  have hbd := dotBad_bd s.data.toList
  have hL : s.data.toList.length = s.size := by simp
  rw [hL] at hbd
  have kB := fun W => dbad_any s W (by omega)
  rcases Int.lt_or_le (dotBad s.data.toList) 0 with hneg | hpos
  · have hk : dotBad s.data.toList = -1 := by omega
    have kT := fun W => knB (s ++ s) (-1) (twice_at hk) (by rw [ByteArray.size_append]; omega) W
    rw [hk] at kB
    clear hk hbd hneg
    have hdk : decide ((s.size : Int) < -1) = false := decide_eq_false (by omega)
    have hlen : ¬ 9223372036854775807 < s.size + s.size := by omega
    go_enter Tryz.func4, Tryz.ntmps4
    go_wp2_with (first
      | (go_at_call 8; (with_reducible refine kK.mono ?_); rintro e w1 ⟨rfl, hb1⟩)
      | (go_at_call 11; (with_reducible refine (kB _).mono ?_); rintro e w2 ⟨rfl, hb2⟩))
    refine wp_loop_rounds 1 ?_
    rw [rounds_succ]
    cases hn0 : decide ((0 : Int) < n)
    all_goals
      go_wp2_with (go_at_call 11; (with_reducible refine (kT _).mono ?_); rintro e w3 ⟨rfl, hb3⟩)
      all_goals go_ret
      all_goals exact ⟨rfl, bl_any (bl_any hb1 hb2) hb3⟩
  · obtain ⟨k, hk⟩ : ∃ k : Nat, dotBad s.data.toList = (k : Int) := ⟨(dotBad s.data.toList).toNat, by omega⟩
    have hks : k ≤ s.size := by omega
    have kF := fun e (hk2 : k < s.size) => far_at hk hk2 e
    have kP := pre_at hk
    rw [hk] at kB
    clear hbd hpos hk
    have hdk : decide ((k : Int) < -1) = false := decide_eq_false (by omega)
    have hdk2 : decide ((s.size : Int) < k) = false := decide_eq_false (by omega)
    have hdk5 : decide (s.size < k) = false := decide_eq_false (by omega)
    have hdk3 : decide (0 ≤ (k : Int)) = true := decide_eq_true (by omega)
    have hdk4 : decide ((k : Int) < 0) = false := decide_eq_false (by omega)
    have hi0 : (0 : Int) ≤ k := by omega
    have hi1 : (k : Int) ≤ s.size := by omega
    obtain ⟨x, hx⟩ : ∃ x, dotBad (s.extract 0 k).data.toList = x := ⟨_, rfl⟩
    rw [hx] at kP
    have kX := fun W => knB (s.extract 0 k) x hx (by rw [ByteArray.size_extract]; omega) W
    clear hx
    go_enter Tryz.func4, Tryz.ntmps4
    go_wp2_with (first
      | (go_at_call 8; (with_reducible refine kK.mono ?_); rintro e w1 ⟨rfl, hb1⟩)
      | (go_at_call 11; (with_reducible refine (kB _).mono ?_); rintro e w2 ⟨rfl, hb2⟩))
    have hb02 := bl_any hb1 hb2
    go_loopw [6] (fun i wr => Below w.heap.size w wr ∧ ∃ j : Nat, j ≤ n ∧ i = .int .i64 j) (fun i _ => n - (intOf i).toNat)
    case atStart => exact ⟨hb02, 0, by omega, rfl⟩
    case round =>
      obtain ⟨hbr, j, hj, rfl⟩ := hrel
      by_cases hin : j < n ∧ k < s.size
      · obtain ⟨hjn, hks2⟩ := hin
        have hdj : decide ((j : Int) < n) = true := decide_eq_true (by omega)
        have hdj2 : decide ((k : Int) < s.size) = true := decide_eq_true (by omega)
        obtain ⟨b, off, hA, hb, hc⟩ := hl.2 (by omega)
        subst hA
        obtain ⟨y, hy⟩ : ∃ y, xs[j]? = some y := ⟨_, List.getElem?_eq_getElem (by rw [hl.1]; exact hjn)⟩
        have c0 : wr.cell? ⟨b, off + j, none⟩ = some (.string y) := (hbr.cell (p := ⟨b, off + j, none⟩) hb).trans (by have := hc j y 0 _ hy rfl; simpa using this)
        have hj0 : (0 : Int) ≤ j := by omega
        have hj1 : (j : Int) < n := by omega
        have hq1 : IntKind.i64.wrap ((k : Int) + 1) = (k : Int) + 1 := IntWalk.i64_in _ (by omega)
        have hq2 : (k : Int) + 1 ≤ s.size := by omega
        have hq3 : (0 : Int) ≤ (k : Int) + 1 := by omega
        clear hy hc
        by_cases h200 : y.size ≤ 200
        · have hd200 : decide ((y.size : Int) ≤ 200) = true := decide_eq_true (by omega)
          have kY := fun W => knB (s.extract 0 (k + 1) ++ y) k (kF y hks2) (by rw [ByteArray.size_append, ByteArray.size_extract]; omega) W
          have hsz : ¬ 9223372036854775807 < min (k + 1) s.size - 0 + y.size := by omega
          have hsz2 : ¬ 9223372036854775807 < min (k + 1) s.size + y.size := by omega
          go_wp2_with fail
          go_region_held3 (fun w' => w'.cell? ⟨b, off + j, none⟩ = some (.string y)) (first | (simp [go_sem, *]; done)) (first
            | (go_at_call 11; refine (kY _).mono ?_; rintro e w3 ⟨rfl, hb3⟩; have c3 : w3.cell? ⟨b, off + j, none⟩ = some (.string y) := (hb3.cell (p := ⟨b, off + j, none⟩) (by have := hbr.size; first | omega | (simp; omega))).trans (by simpa using c0)))
          go_wp2_with fail
          exact ⟨⟨bl_any (by first | exact hbr | exact bl_drewN hbr 1 | exact bl_drewN hbr 2) hb3, j + 1, by omega, rfl⟩, by (simp only [intOf]; omega)⟩
        · have hd200 : decide ((y.size : Int) ≤ 200) = false := decide_eq_false (by omega)
          go_wp2_with fail
          go_quiet (fail)
          go_wp2_with fail
          exact ⟨⟨bl_drewN hbr _, j + 1, by omega, rfl⟩, by (simp only [intOf]; omega)⟩
      · by_cases hjn : j < n
        · have hdj : decide ((j : Int) < n) = true := decide_eq_true (by omega)
          have hdj2 : decide ((k : Int) < s.size) = false := decide_eq_false (by omega)
          go_wp2_with (go_at_call 11; (with_reducible refine (kX _).mono ?_); rintro e w3 ⟨rfl, hb3⟩)
          all_goals go_ret
          all_goals first
            | exact ⟨rfl, bl_any hbr hb3⟩
            | exact ⟨ret_bool (by rcases kP with h | h <;> simp [h]), bl_any hbr hb3⟩
        · have hdj : decide ((j : Int) < n) = false := decide_eq_false (by omega)
          go_wp2_with (go_at_call 11; (with_reducible refine (kX _).mono ?_); rintro e w3 ⟨rfl, hb3⟩)
          all_goals go_ret
          all_goals first
            | exact ⟨rfl, bl_any hbr hb3⟩
            | exact ⟨ret_bool (by rcases kP with h | h <;> simp [h]), bl_any hbr hb3⟩
end Go.Proofs.YtoplengednoldaaGreatDoor
