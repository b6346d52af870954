/- The walk of dec.cut. -/
import Derived.Test.YtoplengednoldaaGreatDoorDecA
import Derived.Test.YtoplengednoldaaGreatDoorShelfD
import Derived.Deep.CutRange
namespace Go.Proofs.YtoplengednoldaaGreatDoor
set_option linter.unusedVariables false
set_option linter.unusedSimpArgs false
open Go.RowKit
theorem minus_pre (l : List UInt8) : Lib.hasPrefix l [45] = minusD l := by
  unfold Lib.hasPrefix minusD
  cases l with
  | nil => rfl
  | cons c cs =>
    have e : bt (c :: cs) 0 = (c.toNat : Int) := rfl
    rw [e]
    have : ([45] : List UInt8).isPrefixOf (c :: cs) = (45 == c) := by simp [List.isPrefixOf]
    rw [this]
    exact u8_is c 45
theorem startD_le (l : List UInt8) : startD l ≤ l.length := by
  unfold startD
  split
  · rename_i h
    cases l with
    | nil => simp [minusD, bt] at h
    | cons c cs => simp
  · exact Nat.zero_le _
/-- What cut tells. -/
def CutE (R : Option (List UInt8 × List UInt8) × Nat) (e : Ending) : Prop :=
  e = .returned (.tuple #[.string (mkS ((R.1.map Prod.fst).getD [])), .string (mkS ((R.1.map Prod.snd).getD [])), .int .i64 (R.2 : Int), .bool R.1.isSome])
set_option maxRecDepth 100000 in
set_option maxHeartbeats 3200000 in
theorem cut_any (s : ByteArray) (w : World) (hs : s.size ≤ 4611686018427387904) :
    Calls Tryz.prog 91 #[.string s] w fun e w' => CutE (cutD s.data.toList) e ∧ Aw [] w w' := by
  have hL : s.data.toList.length = s.size := by simp
  have kP := fun W => Tryz.strings_HasPrefix s ⟨#[45]⟩ W
  have e45 : Lib.hasPrefix s.data.toList (⟨#[45]⟩ : ByteArray).data.toList = minusD s.data.toList := minus_pre _
  rw [e45] at kP
  have h0 := startD_le s.data.toList
  obtain ⟨R, hR⟩ : ∃ R, cutD s.data.toList = R := ⟨_, rfl⟩
  rw [hR]
  unfold cutD at hR
  obtain ⟨a0, ha0⟩ : ∃ a0, startD s.data.toList = a0 := ⟨_, rfl⟩
  rw [ha0] at hR h0
  have h1 := whA_le s.data.toList digB a0 h0
  have kD := fun W => digits_any s a0 W (by omega) hs
  obtain ⟨n1, hn1⟩ : ∃ n1, whA s.data.toList digB a0 = a0 + n1 := ⟨whA s.data.toList digB a0 - a0, by omega⟩
  rw [hn1] at hR h1 kD
  rw [Nat.add_sub_cancel_left] at kD
  rw [hL] at h0 h1 hR
  unfold startD at ha0
  clear e45
  have i1 : (0 : Int) ≤ a0 := by omega
  have i2 : (a0 : Int) ≤ (a0 : Int) + n1 := by omega
  have i3 : (a0 : Int) + n1 ≤ s.size := by omega
  have i4 : ((a0 : Int) + n1).toNat = a0 + n1 := by omega
  have i5 : IntKind.i64.wrap ((a0 : Int) + n1) = (a0 : Int) + n1 := IntWalk.i64_in _ (by omega)
  generalize hm : minusD s.data.toList = m at kP ha0
  go_enter Tryz.func91, Tryz.ntmps91
  go_upto_if 10 with (go_at_call 152; (with_reducible refine (kP _).mono ?_); rintro e w1 ⟨rfl, hw1⟩; rw [hw1]; clear hw1 w1)
  go_cut [6] from 9 to 10 (fun v wx => v = .int .i64 (a0 : Int) ∧ wx = w)
  case first =>
    cases m
    all_goals
      simp only [Bool.false_eq_true, if_false, if_true] at ha0
      subst ha0
      go_wp2_with fail
      go_meet
      exact ⟨rfl, rfl⟩
  case rest =>
    obtain ⟨rfl, rfl⟩ := hcut
    clear kP
    go_upto_region 7 with (go_at_call 153; refine (kD _).mono ?_; rintro e w1 ⟨rfl, hw1⟩; rw [hw1]; clear hw1 w1)
    rw [ext_cut]
    generalize hW : mkS (cutL s.data.toList a0 (a0 + n1)) = VW
    have HW := Lib.hid hW
    clear hW
    by_cases hz : n1 = 0
    · subst hz
      rw [if_pos (by simp)] at hR
      subst hR
      go_wp2_with fail
      refine bodyPost_ret (v := .tuple #[.string ⟨#[]⟩, .string ⟨#[]⟩, .int .i64 ((a0 : Int) + ((0 : Nat) : Int)), .bool false]) (by simp [results, Tryz.results91, go_sem]) rfl ⟨?_, Aw.refl _ _⟩
      simp [CutE, mkS]
    · have z1 : ((n1 : Int) == 0) = false := by rw [beq_eq_false_iff_ne]; omega
      have z0 : (a0 + n1 == a0) = false := by rw [beq_eq_false_iff_ne]; omega
      rw [z0] at hR
      by_cases hlt : a0 + n1 < s.size
      · have hd : decide ((a0 : Int) + n1 < s.size) = true := decide_eq_true (by omega)
        have i6 : (0 : Int) ≤ (a0 : Int) + n1 := by omega
        have i7 : (a0 : Int) + n1 < s.size := by omega
        have hbt := getElem_bt hlt
        cases h46 : (bt s.data.toList (a0 + n1) == 46)
        · rw [h46] at hR
          simp only [Bool.false_or, Bool.not_false, Bool.and_true, hlt, decide_true, if_true] at hR
          subst hR
          have z2 : (((s[a0 + n1]'hlt).toNat : Int) != 46) = true := by rw [bne, hbt, h46]; rfl
          clear h46 hbt
          go_wp2_with fail
          refine bodyPost_ret (v := .tuple #[.string ⟨#[]⟩, .string ⟨#[]⟩, .int .i64 ((a0 : Int) + n1), .bool false]) (by simp [results, Tryz.results91, go_sem]) rfl ⟨?_, Aw.refl _ _⟩
          simp [CutE, mkS]
        · rw [h46] at hR
          have ne1 : (a0 + n1 == s.size) = false := by rw [beq_eq_false_iff_ne]; omega
          simp only [Bool.false_or, Bool.not_true, Bool.and_false, Bool.false_eq_true, if_false, ne1] at hR
          have z2 : (((s[a0 + n1]'hlt).toNat : Int) != 46) = false := by rw [bne, hbt, h46]; rfl
          have z3 : ((a0 : Int) + n1 == (s.size : Int)) = false := by rw [beq_eq_false_iff_ne]; omega
          have h2 := whA_le s.data.toList digB (a0 + n1 + 1) (by rw [hL]; omega)
          have kD2 : ∀ W, Calls Tryz.prog 153 #[.string s, .int .i64 ((a0 : Int) + n1 + 1)] W fun e w' => e = .returned (.int .i64 ((whA s.data.toList digB (a0 + n1 + 1) - (a0 + n1 + 1) : Nat) : Int)) ∧ w' = W := fun W => digits_any s (a0 + n1 + 1) W (by omega) hs
          obtain ⟨n2, hn2⟩ : ∃ n2, whA s.data.toList digB (a0 + n1 + 1) = a0 + n1 + 1 + n2 := ⟨whA s.data.toList digB (a0 + n1 + 1) - (a0 + n1 + 1), by omega⟩
          rw [hn2] at hR h2 kD2
          rw [Nat.add_sub_cancel_left] at kD2
          rw [hL] at h2
          have i8 : (0 : Int) ≤ (a0 : Int) + n1 + 1 := by omega
          have i9 : (a0 : Int) + n1 + 1 ≤ s.size := by omega
          have i10 : ((a0 : Int) + n1 + 1).toNat = a0 + n1 + 1 := by omega
          have i11 : IntKind.i64.wrap ((a0 : Int) + n1 + 1) = (a0 : Int) + n1 + 1 := IntWalk.i64_in _ (by omega)
          have i12 : IntKind.i64.wrap ((a0 : Int) + n1 + 1 + n2) = (a0 : Int) + n1 + 1 + n2 := IntWalk.i64_in _ (by omega)
          clear h46 hbt
          by_cases hz2 : n2 = 0
          · subst hz2
            rw [if_pos (by simp)] at hR
            subst hR
            go_wp2_with (go_at_call 153; refine (kD2 _).mono ?_; rintro e w1 ⟨rfl, hw1⟩; rw [hw1]; clear hw1 w1)
            refine bodyPost_ret (v := .tuple #[.string ⟨#[]⟩, .string ⟨#[]⟩, .int .i64 ((a0 : Int) + n1 + 1 + ((0 : Nat) : Int)), .bool false]) (by simp [results, Tryz.results91, go_sem]) rfl ⟨?_, Aw.refl _ _⟩
            simp [CutE, mkS]
          · have z4 : ((n2 : Int) == 0) = false := by rw [beq_eq_false_iff_ne]; omega
            have z5 : (a0 + n1 + 1 + n2 == a0 + n1 + 1) = false := by rw [beq_eq_false_iff_ne]; omega
            rw [z5] at hR
            by_cases hlt2 : a0 + n1 + 1 + n2 < s.size
            · have hd2 : decide ((a0 : Int) + n1 + 1 + n2 < s.size) = true := decide_eq_true (by omega)
              simp only [Bool.false_or, hlt2, decide_true, if_true] at hR
              subst hR
              go_wp2_with (go_at_call 153; refine (kD2 _).mono ?_; rintro e w1 ⟨rfl, hw1⟩; rw [hw1]; clear hw1 w1)
              refine bodyPost_ret (v := .tuple #[.string ⟨#[]⟩, .string ⟨#[]⟩, .int .i64 ((a0 : Int) + n1 + 1 + n2), .bool false]) (by simp [results, Tryz.results91, go_sem]) rfl ⟨?_, Aw.refl _ _⟩
              simp [CutE, mkS]
            · have hd2 : decide ((a0 : Int) + n1 + 1 + n2 < s.size) = false := decide_eq_false (by omega)
              simp only [Bool.false_or, hlt2, decide_false, Bool.false_eq_true, if_false] at hR
              subst hR
              go_wp2_with (go_at_call 153; refine (kD2 _).mono ?_; rintro e w1 ⟨rfl, hw1⟩; rw [hw1]; clear hw1 w1)
              go_quiet (fail)
              go_wp2_with fail
              have hp : a0 + n1 + 1 + n2 = s.size := by omega
              refine bodyPost_ret (v := .tuple #[.string VW, .string (s.extract (a0 + n1 + 1) s.size), .int .i64 ((a0 : Int) + n1 + 1 + n2), .bool true]) (by simp [results, Tryz.results91, go_sem]) rfl ⟨?_, (Aw.refl _ _).drewN _⟩
              rw [ext_cut, ← hp]
              simp [CutE, mkS]
              exact HW.out.symm
      · have hd : decide ((a0 : Int) + n1 < s.size) = false := decide_eq_false (by omega)
        have z3 : ((a0 : Int) + n1 == (s.size : Int)) = true := by rw [beq_iff_eq]; omega
        have ne1 : (a0 + n1 == s.size) = true := by rw [beq_iff_eq]; omega
        simp only [Bool.false_or, hlt, decide_false, Bool.false_and, Bool.false_eq_true, if_false, ne1, if_true] at hR
        subst hR
        go_wp2_with fail
        refine bodyPost_ret (v := .tuple #[.string VW, .string ⟨#[]⟩, .int .i64 ((a0 : Int) + n1), .bool true]) (by simp [results, Tryz.results91, go_sem]) rfl ⟨?_, Aw.refl _ _⟩
        simp [CutE, mkS]
        exact HW.out.symm
end Go.Proofs.YtoplengednoldaaGreatDoor
