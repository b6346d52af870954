/- The walks of package dec: digits, numbers. -/
import Derived.Test.YtoplengednoldaaGreatDoorDecDef
import Derived.Test.YtoplengednoldaaGreatDoorScanF
namespace Go.Proofs.YtoplengednoldaaGreatDoor
set_option linter.unusedVariables false
set_option linter.unusedSimpArgs false
open Go.RowKit
set_option maxRecDepth 100000 in
set_option maxHeartbeats 1600000 in
theorem digits_any (s : ByteArray) (a : Nat) (w : World) (ha : a ≤ s.size) (hs : s.size ≤ 4611686018427387904) :
    Calls Tryz.prog 153 #[.string s, .int .i64 (a : Int)] w fun e w' => e = .returned (.int .i64 ((whA s.data.toList digB a - a : Nat) : Int)) ∧ w' = w := by
  have HL : Hid (s.data.toList.length = s.size) := Lib.hid (by simp)
  obtain ⟨n, hn⟩ : ∃ n, n = whA s.data.toList digB a - a := ⟨_, rfl⟩
  rw [← hn]
  have HN := Lib.hid hn
  clear hn
  go_enter Tryz.func153, Tryz.ntmps153
  go_wp2_with fail
  go_loopw [5] (fun i wr => wr = w ∧ ∃ k : Nat, a + k ≤ s.size ∧ i = .int .i64 k ∧ Hid (whA s.data.toList digB (a + k) = whA s.data.toList digB a)) (fun i _ => s.size - (intOf i).toNat)
  case atStart => exact ⟨rfl, 0, by omega, rfl, Lib.hid rfl⟩
  case round =>
    obtain ⟨rfl, k, hk, rfl, HW⟩ := hrel
    have r1 : IntKind.i64.wrap ((a : Int) + k) = (a : Int) + k := IntWalk.i64_in _ (by omega)
    have r3 : ((a : Int) + k).toNat = a + k := by omega
    by_cases hlt : a + k < s.size
    case neg =>
      have hd : decide (((a : Int) + k) < s.size) = false := decide_eq_false (by omega)
      have hE := HW.out
      rw [whA_end (by rw [HL.out]; omega)] at hE
      have HE : Hid (k = n) := Lib.hid (by rw [HN.out]; omega)
      clear HW hE
      go_wp2_with fail
      go_ret
      obtain rfl := HE.out
      exact ⟨rfl, rfl⟩
    case pos =>
      have hd : decide (((a : Int) + k) < s.size) = true := decide_eq_true (by omega)
      have hi0 : (0 : Int) ≤ (a : Int) + k := by omega
      have hi1 : ((a : Int) + k) < s.size := by omega
      have hbt := getElem_bt hlt
      obtain ⟨d1, hd1⟩ : ∃ q, decide ((48 : Int) ≤ ((s[a + k]'hlt).toNat : Int)) = q := ⟨_, rfl⟩
      obtain ⟨d2, hd2⟩ : ∃ q, decide (((s[a + k]'hlt).toNat : Int) ≤ 57) = q := ⟨_, rfl⟩
      have hdig : digB (bt s.data.toList (a + k)) = (d1 && d2) := by rw [← hbt, ← hd1, ← hd2]; rfl
      have hend : (d1 && d2) = false → Hid (k = n) := fun h => Lib.hid (by
        rw [HN.out]
        have hE := HW.out
        rw [whA_no (by rw [HL.out]; exact hlt) (by rw [hdig]; exact h)] at hE
        omega)
      have hyes : (d1 && d2) = true → Hid (whA s.data.toList digB (a + (k + 1)) = whA s.data.toList digB a) := fun h => Lib.hid (by
        have hE := HW.out
        rw [whA_yes (by rw [HL.out]; exact hlt) (by rw [hdig]; exact h)] at hE
        exact hE)
      clear hdig HW hbt
      cases d1
      case false =>
        have HE := hend rfl
        clear hend hyes
        go_wp2_with fail
        go_ret
        obtain rfl := HE.out
        exact ⟨rfl, rfl⟩
      case true =>
        cases d2
        case false =>
          have HE := hend rfl
          clear hend hyes
          go_wp2_with fail
          go_ret
          obtain rfl := HE.out
          exact ⟨rfl, rfl⟩
        case true =>
          have HY := hyes rfl
          clear hend hyes
          go_wp2_with fail
          exact ⟨⟨trivial, k + 1, by omega, rfl, HY⟩, by (simp only [intOf]; omega)⟩
set_option maxRecDepth 100000 in
set_option maxHeartbeats 1600000 in
theorem number_any (s : ByteArray) (w : World) (hs : s.size ≤ 4611686018427387904) (hdg : ∀ c ∈ s.data.toList, 48 ≤ c.toNat ∧ c.toNat ≤ 57) (R : Option Nat) (hR : numD 0 s.data.toList = R) :
    Calls Tryz.prog 93 #[.string s] w fun e w' => e = .returned (.tuple #[.int .i64 ((R.getD 0 : Nat) : Int), .bool R.isSome]) ∧ w' = w := by
  have HL : Hid (s.data.toList.length = s.size) := Lib.hid (by simp)
  have H0 : Hid (numD 0 (s.data.toList.drop 0) = R) := Lib.hid hR
  have HD := Lib.hid hdg
  clear hR hdg
  go_enter Tryz.func93, Tryz.ntmps93
  go_wp2_with fail
  go_loopw [4, 9] (fun n i wr => wr = w ∧ ∃ k m : Nat, k ≤ s.size ∧ i = .int .i64 k ∧ n = .int .i64 m ∧ m ≤ 9223372036854775807 ∧ Hid (numD m (s.data.toList.drop k) = R)) (fun _ i _ => s.size - (intOf i).toNat)
  case atStart => exact ⟨rfl, 0, 0, by omega, rfl, rfl, by omega, H0⟩
  case round =>
    clear H0
    obtain ⟨rfl, k, m, hk, rfl, rfl, hm, HR⟩ := hrel
    by_cases hlt : k < s.size
    case neg =>
      have hd : decide ((k : Int) < s.size) = false := decide_eq_false (by omega)
      have hE := HR.out
      rw [List.drop_of_length_le (by rw [HL.out]; omega)] at hE
      simp only [numD] at hE
      obtain rfl := hE
      clear HR
      go_wp2_with fail
      go_ret2
      exact ⟨rfl, rfl⟩
    case pos =>
      have hd : decide ((k : Int) < s.size) = true := decide_eq_true (by omega)
      have hi0 : (0 : Int) ≤ k := by omega
      have hi1 : (k : Int) < s.size := by omega
      have hc := HD.out (s[k]'hlt) (by
        have : s.data.toList[k]'(by rw [HL.out]; exact hlt) = s[k]'hlt := rfl
        rw [← this]; exact List.getElem_mem _)
      have hE := HR.out
      rw [List.drop_eq_getElem_cons (by rw [HL.out]; exact hlt)] at hE
      unfold numD at hE
      have hce : s.data.toList[k]'(by rw [HL.out]; exact hlt) = s[k]'hlt := rfl
      rw [hce] at hE
      obtain ⟨d, hdd⟩ : ∃ d : Nat, d = (s[k]'hlt).toNat - 48 := ⟨_, rfl⟩
      rw [← hdd] at hE
      have e1 : IntKind.u8.wrap (((s[k]'hlt).toNat : Int) - 48) = (d : Int) := by rw [IntKind.wrap_u8]; omega
      have e3 : IntKind.i64.wrap (9223372036854775807 - (d : Int)) = 9223372036854775807 - (d : Int) := IntWalk.i64_in _ (by omega)
      obtain ⟨q, hq⟩ : ∃ q : Nat, q = (9223372036854775807 - d) / 10 := ⟨_, rfl⟩
      rw [← hq] at hE
      have e4 : (9223372036854775807 - (d : Int)).tdiv 10 = (q : Int) := by rw [Int.tdiv_eq_ediv_of_nonneg (by omega)]; omega
      have e5 : IntKind.i64.wrap (q : Int) = (q : Int) := IntWalk.i64_in _ (by omega)
      have HQ := Lib.hid hq
      have hd9 : d ≤ 9 := by omega
      have hq9 : q ≤ 922337203685477580 := by omega
      clear hq hce HR hc hdd
      by_cases hgt : q < m
      · rw [if_pos hgt] at hE
        obtain rfl := hE
        have c1 : decide ((q : Int) < m) = true := decide_eq_true (by omega)
        have c2 : decide (q < m) = true := decide_eq_true hgt
        go_wp2_with fail
        go_ret2
        exact ⟨rfl, rfl⟩
      · rw [if_neg hgt] at hE
        have c1 : decide ((q : Int) < m) = false := decide_eq_false (by omega)
        have c2 : decide (q < m) = false := decide_eq_false hgt
        have c3 : m ≤ q := by omega
        have hmx : m * 10 + d ≤ 9223372036854775807 := by have := HQ.out; omega
        have e6 : IntKind.i64.wrap ((m : Int) * 10) = (m : Int) * 10 := IntWalk.i64_in _ (by omega)
        have e7 : IntKind.i64.wrap ((m : Int) * 10 + d) = (m : Int) * 10 + d := IntWalk.i64_in _ (by omega)
        have HE := Lib.hid hE
        clear hE
        go_wp2_with fail
        exact ⟨⟨trivial, k + 1, m * 10 + d, by omega, rfl, congrArg (Value.int .i64) (by omega), hmx, HE⟩, by (simp only [intOf]; omega)⟩
end Go.Proofs.YtoplengednoldaaGreatDoor
