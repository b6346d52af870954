/- The walks of package stamp: a whole number of a text; seconds as a time. -/
import Derived.Test.YtoplengednoldaaGreatDoorDecC
import Derived.Test.YtoplengednoldaaGreatDoorDotRd
namespace Go.Proofs.YtoplengednoldaaGreatDoor
set_option linter.unusedVariables false
set_option linter.unusedSimpArgs false
open Go.RowKit
theorem cut_cons {l : List UInt8} {k e : Nat} (h : k < e) (he : e ≤ l.length) : cutL l k e = l[k]'(by omega) :: cutL l (k + 1) e := by
  unfold cutL
  rw [List.drop_eq_getElem_cons (by omega : k < l.length), show e - k = (e - (k + 1)) + 1 by omega, List.take_succ_cons]
theorem cut_none {l : List UInt8} (k : Nat) : cutL l k k = [] := by unfold cutL; simp
def intR (b : Bool) : Option Nat → Int × Nat
  | none => (0, 12)
  | some m => (if b then -(m : Int) else (m : Int), 0)
theorem intD_is (l : List UInt8) : intD l = if whA l digB (startD l) == startD l || decide (whA l digB (startD l) < l.length) then (0, 11) else intR (minusD l) (numD 0 (cutL l (startD l) (whA l digB (startD l)))) := by
  unfold intD intR
  rfl
/-- What Int tells. -/
def IntE (R : Int × Nat) (e : Ending) : Prop := ∃ k : Int, e = .returned (.tuple #[.int .i64 R.1, .int .i64 (R.2 : Int), .int .i64 k])
set_option maxRecDepth 100000 in
set_option maxHeartbeats 6400000 in
theorem whole_stamp (s : ByteArray) (w : World) (hs : s.size ≤ 1048576) :
    Calls Tryz.prog 95 #[.string s, .bool true] w fun e w' => IntE (intD s.data.toList) e ∧ w' = w := by
  have hL : s.data.toList.length = s.size := by simp
  have HL := Lib.hid hL
  have kP := fun W => Tryz.strings_HasPrefix s ⟨#[45]⟩ W
  have e45 : Lib.hasPrefix s.data.toList (⟨#[45]⟩ : ByteArray).data.toList = minusD s.data.toList := minus_pre _
  rw [e45] at kP
  have h0 := startD_le s.data.toList
  have h1 := whA_le s.data.toList digB (startD s.data.toList) h0
  have HI := Lib.hid (intD_is s.data.toList)
  have ha0 : startD s.data.toList = if minusD s.data.toList then 1 else 0 := rfl
  obtain ⟨E, hE⟩ : ∃ E, whA s.data.toList digB (startD s.data.toList) = E := ⟨_, rfl⟩
  have HW := Lib.hid hE
  rw [hE] at HI h1
  obtain ⟨R, hR⟩ : ∃ R, numD 0 (cutL s.data.toList (startD s.data.toList) E) = R := ⟨_, rfl⟩
  have HR := Lib.hid hR
  rw [hR] at HI
  rw [hL] at h0 h1 HI
  clear hE hR e45 hL
  generalize startD s.data.toList = a0 at *
  generalize intD s.data.toList = RI at *
  generalize hm : minusD s.data.toList = mm at *
  clear hm
  cases mm
  · simp only [Bool.false_eq_true, if_false, if_true] at ha0 HI
    subst ha0
    go_enter Tryz.func95, Tryz.ntmps95
    go_wp2_with (go_at_call 152; (with_reducible refine (kP _).mono ?_); rintro e w1 ⟨rfl, hw1⟩; rw [hw1]; clear hw1 w1)
    clear kP
    go_loop [7, 9, 10, 11] (fun kv mv ov _ => ∃ (k m : Nat) (o : Bool), k ≤ s.size ∧ k ≤ E ∧ kv = .int .i64 k ∧ mv = .int .i64 m ∧ ov = .bool o ∧ m ≤ 9223372036854775807 ∧ Hid (whA s.data.toList digB k = E) ∧ Hid (if o = true then R = none else numD m (cutL s.data.toList k E) = R)) (fun kv _ _ _ => s.size - (intOf kv).toNat)
    case atStart => exact ⟨0, 0, false, h0, h1.1, rfl, rfl, rfl, by omega, HW, Lib.hid (by rw [if_neg (by simp)]; exact HR.out)⟩
    case round =>
      clear HW HR
      obtain ⟨k, m, o, hk, hkE, rfl, rfl, rfl, hm, HW, HR⟩ := hrel
      by_cases hdig : k < s.size ∧ digB (bt s.data.toList k) = true
      case pos =>
        obtain ⟨hlt, hd⟩ := hdig
        have hd1 : decide ((k : Int) < s.size) = true := decide_eq_true (by omega)
        have hi0 : (0 : Int) ≤ k := by omega
        have hi1 : (k : Int) < s.size := by omega
        have hW := HW.out
        rw [whA_yes (by rw [HL.out]; exact hlt) hd] at hW
        have hkE2 : k < E := by
          have := (whA_le s.data.toList digB (k + 1) (by rw [HL.out]; omega)).1
          omega
        have HW2 := Lib.hid hW
        rw [← getElem_bt hlt] at hd
        unfold digB at hd
        simp only [Bool.and_eq_true, decide_eq_true_eq] at hd
        obtain ⟨hc1, hc2⟩ := hd
        have b1 : decide ((48 : Int) ≤ ((s[k]'hlt).toNat : Int)) = true := decide_eq_true hc1
        have b2 : decide (((s[k]'hlt).toNat : Int) ≤ 57) = true := decide_eq_true hc2
        have hce : s.data.toList[k]'(by rw [HL.out]; exact hlt) = s[k]'hlt := rfl
        obtain ⟨d, hdd⟩ : ∃ d : Nat, d = (s[k]'hlt).toNat - 48 := ⟨_, rfl⟩
        have e1 : IntKind.u8.wrap (((s[k]'hlt).toNat : Int) - 48) = (d : Int) := by rw [IntKind.wrap_u8]; omega
        have e3 : IntKind.i64.wrap (9223372036854775807 - (d : Int)) = 9223372036854775807 - (d : Int) := IntWalk.i64_in _ (by omega)
        obtain ⟨q, hq⟩ : ∃ q : Nat, q = (9223372036854775807 - d) / 10 := ⟨_, rfl⟩
        have e4 : (9223372036854775807 - (d : Int)).tdiv 10 = (q : Int) := by rw [Int.tdiv_eq_ediv_of_nonneg (by omega)]; omega
        have e5 : IntKind.i64.wrap (q : Int) = (q : Int) := IntWalk.i64_in _ (by omega)
        have hd9 : d ≤ 9 := by omega
        have hq9 : q ≤ 922337203685477580 := by omega
        have HQ := Lib.hid hq
        cases o
        case true =>
          have HR2 : Hid (if true = true then R = none else numD m (cutL s.data.toList (k + 1) E) = R) := Lib.hid HR.out
          clear HR hq hce hdd hW HW HI
          go_wp2_with fail
          exact ⟨⟨k + 1, m, true, by omega, by omega, rfl, rfl, rfl, hm, HW2, HR2⟩, by (simp only [intOf]; omega)⟩
        case false =>
          have hR := HR.out
          rw [if_neg (by simp), cut_cons hkE2 h1.2] at hR
          unfold numD at hR
          rw [hce, ← hdd, ← hq] at hR
          by_cases hgt : q < m
          · rw [if_pos hgt] at hR
            have c1 : decide ((q : Int) < m) = true := decide_eq_true (by omega)
            have c2 : decide (q < m) = true := decide_eq_true hgt
            have HR2 : Hid (if true = true then R = none else numD m (cutL s.data.toList (k + 1) E) = R) := Lib.hid (by rw [if_pos rfl]; exact hR.symm)
            clear HR hq hce hdd hW HW HI hR
            go_wp2_with fail
            exact ⟨⟨k + 1, m, true, by omega, by omega, rfl, rfl, rfl, hm, HW2, HR2⟩, by (simp only [intOf]; omega)⟩
          · rw [if_neg hgt] at hR
            have c1 : decide ((q : Int) < m) = false := decide_eq_false (by omega)
            have c2 : decide (q < m) = false := decide_eq_false hgt
            have hmx : m * 10 + d ≤ 9223372036854775807 := by omega
            have e6 : IntKind.i64.wrap ((m : Int) * 10) = (m : Int) * 10 := IntWalk.i64_in _ (by omega)
            have e7 : IntKind.i64.wrap ((m : Int) * 10 + d) = (m : Int) * 10 + d := IntWalk.i64_in _ (by omega)
            have HR2 : Hid (if false = true then R = none else numD (m * 10 + d) (cutL s.data.toList (k + 1) E) = R) := Lib.hid (by rw [if_neg (by simp)]; exact hR)
            clear HR hq hce hdd hW HW HI hR
            go_wp2_with fail
            exact ⟨⟨k + 1, m * 10 + d, false, by omega, by omega, rfl, by first | rfl | (simp; done), rfl, hmx, HW2, HR2⟩, by (simp only [intOf]; omega)⟩
      case neg =>
        have hkE2 : k = E := by
          have hW := HW.out
          by_cases hlt : k < s.size
          · rw [whA_no (by rw [HL.out]; exact hlt) (by
              cases h : digB (bt s.data.toList k)
              · rfl
              · exact absurd ⟨hlt, h⟩ hdig)] at hW
            exact hW
          · rw [whA_end (by rw [HL.out]; omega)] at hW
            exact hW
        subst hkE2
        clear HW
        by_cases hlt : k < s.size
        · have hd1 : decide ((k : Int) < s.size) = true := decide_eq_true (by omega)
          have hi0 : (0 : Int) ≤ k := by omega
          have hi1 : (k : Int) < s.size := by omega
          have hRI : RI = (0, 11) := by
            rw [HI.out, if_pos]
            simp [hlt]
          have HRI := Lib.hid hRI
          have hd : digB ((s[k]'hlt).toNat : Int) = false := by
            cases h : digB ((s[k]'hlt).toNat : Int)
            · rfl
            · exact absurd ⟨hlt, by rw [← getElem_bt hlt]; exact h⟩ hdig
          unfold digB at hd
          rw [Bool.and_eq_false_iff, decide_eq_false_iff_not, decide_eq_false_iff_not] at hd
          clear hdig HI hRI HR
          have b1 : decide ((48 : Int) ≤ ((s[k]'hlt).toNat : Int)) = false ∨ (decide ((48 : Int) ≤ ((s[k]'hlt).toNat : Int)) = true ∧ decide (((s[k]'hlt).toNat : Int) ≤ 57) = false) := by
            by_cases h48 : (48 : Int) ≤ ((s[k]'hlt).toNat : Int)
            · exact .inr ⟨decide_eq_true h48, decide_eq_false (by omega)⟩
            · exact .inl (decide_eq_false h48)
          clear hd
          cases hz : ((k : Int) == 0)
          all_goals
            rcases b1 with b1 | ⟨b1, b2⟩
            all_goals
              go_wp2_with fail
              go_ret3
              exact ⟨⟨k, by rw [HRI.out]; rfl⟩, rfl⟩
        · have hd1 : decide ((k : Int) < s.size) = false := decide_eq_false (by omega)
          clear hdig
          cases hz : ((k : Int) == 0)
          case true =>
            have hRI : RI = (0, 11) := by
              rw [HI.out, if_pos]
              have : k = 0 := by have := beq_iff_eq.1 hz; omega
              simp [this]
            have HRI := Lib.hid hRI
            clear HI hRI HR
            go_wp2_with fail
            go_ret3
            exact ⟨⟨k, by rw [HRI.out]; rfl⟩, rfl⟩
          case false =>
            have hRI : RI = intR false R := by
              have h2 : ¬ k = 0 := by have := beq_eq_false_iff_ne.1 hz; omega
              rw [HI.out, if_neg (by simp [h2, hlt])]
            have hR := HR.out
            cases o
            case true =>
              rw [if_pos rfl] at hR
              subst hR
              have HRI := Lib.hid hRI
              clear HI hRI HR
              go_wp2_with fail
              go_ret3
              exact ⟨⟨0, by rw [HRI.out]; rfl⟩, rfl⟩
            case false =>
              rw [if_neg (by simp), cut_none, numD] at hR
              subst hR
              have HRI := Lib.hid hRI
              have e8 : IntKind.i64.wrap (-(m : Int)) = -(m : Int) := IntWalk.i64_in _ (by omega)
              clear HI hRI HR
              go_wp2_with fail
              go_ret3
              exact ⟨⟨0, by rw [HRI.out]; rfl⟩, rfl⟩
  · simp only [Bool.false_eq_true, if_false, if_true] at ha0 HI
    subst ha0
    go_enter Tryz.func95, Tryz.ntmps95
    go_wp2_with (go_at_call 152; (with_reducible refine (kP _).mono ?_); rintro e w1 ⟨rfl, hw1⟩; rw [hw1]; clear hw1 w1)
    clear kP
    go_loop [7, 9, 10, 11] (fun kv mv ov _ => ∃ (k m : Nat) (o : Bool), k ≤ s.size ∧ k ≤ E ∧ kv = .int .i64 k ∧ mv = .int .i64 m ∧ ov = .bool o ∧ m ≤ 9223372036854775807 ∧ Hid (whA s.data.toList digB k = E) ∧ Hid (if o = true then R = none else numD m (cutL s.data.toList k E) = R)) (fun kv _ _ _ => s.size - (intOf kv).toNat)
    case atStart => exact ⟨1, 0, false, h0, h1.1, rfl, rfl, rfl, by omega, HW, Lib.hid (by rw [if_neg (by simp)]; exact HR.out)⟩
    case round =>
      clear HW HR
      obtain ⟨k, m, o, hk, hkE, rfl, rfl, rfl, hm, HW, HR⟩ := hrel
      by_cases hdig : k < s.size ∧ digB (bt s.data.toList k) = true
      case pos =>
        obtain ⟨hlt, hd⟩ := hdig
        have hd1 : decide ((k : Int) < s.size) = true := decide_eq_true (by omega)
        have hi0 : (0 : Int) ≤ k := by omega
        have hi1 : (k : Int) < s.size := by omega
        have hW := HW.out
        rw [whA_yes (by rw [HL.out]; exact hlt) hd] at hW
        have hkE2 : k < E := by
          have := (whA_le s.data.toList digB (k + 1) (by rw [HL.out]; omega)).1
          omega
        have HW2 := Lib.hid hW
        rw [← getElem_bt hlt] at hd
        unfold digB at hd
        simp only [Bool.and_eq_true, decide_eq_true_eq] at hd
        obtain ⟨hc1, hc2⟩ := hd
        have b1 : decide ((48 : Int) ≤ ((s[k]'hlt).toNat : Int)) = true := decide_eq_true hc1
        have b2 : decide (((s[k]'hlt).toNat : Int) ≤ 57) = true := decide_eq_true hc2
        have hce : s.data.toList[k]'(by rw [HL.out]; exact hlt) = s[k]'hlt := rfl
        obtain ⟨d, hdd⟩ : ∃ d : Nat, d = (s[k]'hlt).toNat - 48 := ⟨_, rfl⟩
        have e1 : IntKind.u8.wrap (((s[k]'hlt).toNat : Int) - 48) = (d : Int) := by rw [IntKind.wrap_u8]; omega
        have e3 : IntKind.i64.wrap (9223372036854775807 - (d : Int)) = 9223372036854775807 - (d : Int) := IntWalk.i64_in _ (by omega)
        obtain ⟨q, hq⟩ : ∃ q : Nat, q = (9223372036854775807 - d) / 10 := ⟨_, rfl⟩
        have e4 : (9223372036854775807 - (d : Int)).tdiv 10 = (q : Int) := by rw [Int.tdiv_eq_ediv_of_nonneg (by omega)]; omega
        have e5 : IntKind.i64.wrap (q : Int) = (q : Int) := IntWalk.i64_in _ (by omega)
        have hd9 : d ≤ 9 := by omega
        have hq9 : q ≤ 922337203685477580 := by omega
        have HQ := Lib.hid hq
        cases o
        case true =>
          have HR2 : Hid (if true = true then R = none else numD m (cutL s.data.toList (k + 1) E) = R) := Lib.hid HR.out
          clear HR hq hce hdd hW HW HI
          go_wp2_with fail
          exact ⟨⟨k + 1, m, true, by omega, by omega, rfl, rfl, rfl, hm, HW2, HR2⟩, by (simp only [intOf]; omega)⟩
        case false =>
          have hR := HR.out
          rw [if_neg (by simp), cut_cons hkE2 h1.2] at hR
          unfold numD at hR
          rw [hce, ← hdd, ← hq] at hR
          by_cases hgt : q < m
          · rw [if_pos hgt] at hR
            have c1 : decide ((q : Int) < m) = true := decide_eq_true (by omega)
            have c2 : decide (q < m) = true := decide_eq_true hgt
            have HR2 : Hid (if true = true then R = none else numD m (cutL s.data.toList (k + 1) E) = R) := Lib.hid (by rw [if_pos rfl]; exact hR.symm)
            clear HR hq hce hdd hW HW HI hR
            go_wp2_with fail
            exact ⟨⟨k + 1, m, true, by omega, by omega, rfl, rfl, rfl, hm, HW2, HR2⟩, by (simp only [intOf]; omega)⟩
          · rw [if_neg hgt] at hR
            have c1 : decide ((q : Int) < m) = false := decide_eq_false (by omega)
            have c2 : decide (q < m) = false := decide_eq_false hgt
            have hmx : m * 10 + d ≤ 9223372036854775807 := by omega
            have e6 : IntKind.i64.wrap ((m : Int) * 10) = (m : Int) * 10 := IntWalk.i64_in _ (by omega)
            have e7 : IntKind.i64.wrap ((m : Int) * 10 + d) = (m : Int) * 10 + d := IntWalk.i64_in _ (by omega)
            have HR2 : Hid (if false = true then R = none else numD (m * 10 + d) (cutL s.data.toList (k + 1) E) = R) := Lib.hid (by rw [if_neg (by simp)]; exact hR)
            clear HR hq hce hdd hW HW HI hR
            go_wp2_with fail
            exact ⟨⟨k + 1, m * 10 + d, false, by omega, by omega, rfl, by first | rfl | (simp; done), rfl, hmx, HW2, HR2⟩, by (simp only [intOf]; omega)⟩
      case neg =>
        have hkE2 : k = E := by
          have hW := HW.out
          by_cases hlt : k < s.size
          · rw [whA_no (by rw [HL.out]; exact hlt) (by
              cases h : digB (bt s.data.toList k)
              · rfl
              · exact absurd ⟨hlt, h⟩ hdig)] at hW
            exact hW
          · rw [whA_end (by rw [HL.out]; omega)] at hW
            exact hW
        subst hkE2
        clear HW
        by_cases hlt : k < s.size
        · have hd1 : decide ((k : Int) < s.size) = true := decide_eq_true (by omega)
          have hi0 : (0 : Int) ≤ k := by omega
          have hi1 : (k : Int) < s.size := by omega
          have hRI : RI = (0, 11) := by
            rw [HI.out, if_pos]
            simp [hlt]
          have HRI := Lib.hid hRI
          have hd : digB ((s[k]'hlt).toNat : Int) = false := by
            cases h : digB ((s[k]'hlt).toNat : Int)
            · rfl
            · exact absurd ⟨hlt, by rw [← getElem_bt hlt]; exact h⟩ hdig
          unfold digB at hd
          rw [Bool.and_eq_false_iff, decide_eq_false_iff_not, decide_eq_false_iff_not] at hd
          clear hdig HI hRI HR
          have b1 : decide ((48 : Int) ≤ ((s[k]'hlt).toNat : Int)) = false ∨ (decide ((48 : Int) ≤ ((s[k]'hlt).toNat : Int)) = true ∧ decide (((s[k]'hlt).toNat : Int) ≤ 57) = false) := by
            by_cases h48 : (48 : Int) ≤ ((s[k]'hlt).toNat : Int)
            · exact .inr ⟨decide_eq_true h48, decide_eq_false (by omega)⟩
            · exact .inl (decide_eq_false h48)
          clear hd
          cases hz : ((k : Int) == 1)
          all_goals
            rcases b1 with b1 | ⟨b1, b2⟩
            all_goals
              go_wp2_with fail
              go_ret3
              exact ⟨⟨k, by rw [HRI.out]; rfl⟩, rfl⟩
        · have hd1 : decide ((k : Int) < s.size) = false := decide_eq_false (by omega)
          clear hdig
          cases hz : ((k : Int) == 1)
          case true =>
            have hRI : RI = (0, 11) := by
              rw [HI.out, if_pos]
              have : k = 1 := by have := beq_iff_eq.1 hz; omega
              simp [this]
            have HRI := Lib.hid hRI
            clear HI hRI HR
            go_wp2_with fail
            go_ret3
            exact ⟨⟨k, by rw [HRI.out]; rfl⟩, rfl⟩
          case false =>
            have hRI : RI = intR true R := by
              have h2 : ¬ k = 1 := by have := beq_eq_false_iff_ne.1 hz; omega
              rw [HI.out, if_neg (by simp [h2, hlt])]
            have hR := HR.out
            cases o
            case true =>
              rw [if_pos rfl] at hR
              subst hR
              have HRI := Lib.hid hRI
              clear HI hRI HR
              go_wp2_with fail
              go_ret3
              exact ⟨⟨0, by rw [HRI.out]; rfl⟩, rfl⟩
            case false =>
              rw [if_neg (by simp), cut_none, numD] at hR
              subst hR
              have HRI := Lib.hid hRI
              have e8 : IntKind.i64.wrap (-(m : Int)) = -(m : Int) := IntWalk.i64_in _ (by omega)
              clear HI hRI HR
              go_wp2_with fail
              go_ret3
              exact ⟨⟨0, by rw [HRI.out]; rfl⟩, rfl⟩
/-! ### units -/
theorem int_any (s : ByteArray) (w : World) (hs : s.size ≤ 1048576) : Calls Tryz.prog 52 #[.string s] w fun e w' => IntE (intD s.data.toList) e ∧ w' = w := by
  have k := whole_stamp s w hs
  generalize intD s.data.toList = R at *
  go_enter Tryz.func52, Tryz.ntmps52
  go_wp2_with (go_at_call 95; (with_reducible refine k.mono ?_); rintro e w1 ⟨⟨q, rfl⟩, hw1⟩; rw [hw1]; clear hw1 w1)
  go_ret3
  exact ⟨⟨q, rfl⟩, rfl⟩
theorem unit0_any (w : World) : Calls Tryz.prog 96 #[.int .i64 0] w fun e w' => e = .returned (.tuple #[.agg #[.int .i64 1000, .int .i64 1], .bool true]) ∧ Below w.heap.size w w' := by
  go_enter Tryz.func96, Tryz.ntmps96
  go_wp2_with fail
  exact bodyPost_ret (v := .tuple #[.agg #[.int .i64 1000, .int .i64 1], .bool true]) (by simp [results, Tryz.results96, go_sem]) rfl ⟨rfl, by
    repeat (first | with_reducible exact Below.refl _ _ | with_reducible refine bl_alloc ?_ _ | ((with_reducible refine bl_set ?_ ?_ _); rotate_left; (focus (first | (simp; done) | (simp; omega) | omega))))⟩
/-- What Ms tells. -/
def MsE (R : Option Int) (e : Ending) : Prop := e = .returned (.tuple #[.int .i64 (R.getD 0), .bool R.isSome])
set_option maxRecDepth 100000 in
set_option maxHeartbeats 1600000 in
theorem ms_any (n : Int) (w : World) (h1 : -9223372036854775808 ≤ n) (h2 : n ≤ 9223372036854775807) :
    Calls Tryz.prog 53 #[.int .i64 n, .int .i64 0] w fun e w' => MsE (msD n) e ∧ Below w.heap.size w w' := by
  have kU := fun W => unit0_any W
  have q1 : n.tmod 1 = 0 := Int.tmod_one n
  have q2 : n.tdiv 1 = n := Int.tdiv_one n
  have q3 : IntKind.i64.wrap n = n := IntWalk.i64_in _ (by omega)
  have q4 : (1125899906842624 : Int).tdiv 1000 = 1125899906842 := by decide
  have q5 : (-1125899906842624 : Int).tdiv 1000 = -1125899906842 := by decide
  by_cases c1 : 1125899906842 < n
  · have HR : Hid (msD n = none) := Lib.hid (if_pos (.inl c1))
    have d1 : decide ((1125899906842 : Int) < n) = true := decide_eq_true c1
    go_enter Tryz.func53, Tryz.ntmps53
    go_wp2_with (go_at_call 96; (with_reducible refine (kU _).mono ?_); rintro e w1 ⟨rfl, hb1⟩)
    go_ret2
    exact ⟨by rw [HR.out]; rfl, bl_alloc hb1 _⟩
  · have d1 : decide ((1125899906842 : Int) < n) = false := decide_eq_false c1
    by_cases c2 : n < -1125899906842
    · have HR : Hid (msD n = none) := Lib.hid (if_pos (.inr c2))
      have d2 : decide (n < (-1125899906842 : Int)) = true := decide_eq_true c2
      go_enter Tryz.func53, Tryz.ntmps53
      go_wp2_with (go_at_call 96; (with_reducible refine (kU _).mono ?_); rintro e w1 ⟨rfl, hb1⟩)
      go_ret2
      exact ⟨by rw [HR.out]; rfl, bl_alloc hb1 _⟩
    · have HR : Hid (msD n = some (n * 1000)) := Lib.hid (if_neg (by omega))
      have d2 : decide (n < (-1125899906842 : Int)) = false := decide_eq_false c2
      have q6 : IntKind.i64.wrap (n * 1000) = n * 1000 := IntWalk.i64_in _ (by omega)
      go_enter Tryz.func53, Tryz.ntmps53
      go_wp2_with (go_at_call 96; (with_reducible refine (kU _).mono ?_); rintro e w1 ⟨rfl, hb1⟩)
      go_ret2
      exact ⟨by rw [HR.out]; rfl, bl_alloc hb1 _⟩
end Go.Proofs.YtoplengednoldaaGreatDoor
