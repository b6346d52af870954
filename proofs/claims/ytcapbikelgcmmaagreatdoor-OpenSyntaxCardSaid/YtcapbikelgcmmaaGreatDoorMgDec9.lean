/- The walks of package dec: digits, numbers. The walk of dec.cut. The walk of dec.Parse. -/
import Derived.Test.YtcapbikelgcmmaaGreatDoorMgPl9
import Derived.Test.YtcapbikelgcmmaaGreatDoorMgSc9
import Derived.Test.YtcapbikelgcmmaaGreatDoorShelfD
import Derived.Deep.CutRange
import Derived.Test.YtcapbikelgcmmaaGreatDoorShelfT
namespace Go.Proofs.YtcapbikelgcmmaaGreatDoor
set_option linter.unusedVariables false
set_option linter.unusedSimpArgs false
open Go.RowKit
section
set_option maxRecDepth 100000 in
set_option maxHeartbeats 1600000 in
theorem digits_any (s : ByteArray) (a : Nat) (w : World) (ha : a ≤ s.size) (hs : s.size ≤ 4611686018427387904) :
    Calls Tryz.prog 212 #[.string s, .int .i64 (a : Int)] w fun e w' => e = .returned (.int .i64 ((whA s.data.toList digB a - a : Nat) : Int)) ∧ w' = w := by
  have HL : Hid (s.data.toList.length = s.size) := Lib.hid (by simp)
  obtain ⟨n, hn⟩ : ∃ n, n = whA s.data.toList digB a - a := ⟨_, rfl⟩
  rw [← hn]
  have HN := Lib.hid hn
  clear hn
  go_enter Tryz.func212, Tryz.ntmps212
  go_wp2_with fail
  go_loopw [5] (fun i wr => wr = w ∧ ∃ k : Nat, a + k ≤ s.size ∧ i = .int .i64 k ∧ Hid (whA s.data.toList digB (a + k) = whA s.data.toList digB a)) (fun i _ => s.size - (intOf i).toNat)
  case atStart => exact ⟨rfl, 0, by omega, rfl, Lib.hid rfl⟩
  case round =>
    obtain ⟨rfl, k, hk, rfl, HW⟩ := hrel
    have r1 : IntKind.i64.wrap ((a : Int) + k) = (a : Int) + k := IntWalk.i64_in _ (by omega)
    have r3 : ((a : Int) + k).toNat = a + k := by omega
    by_cases hlt : a + k < s.size
    case neg =>
      have hd : decide (((a : Int) + k) < s.size) = false := decide_eq_false (by omega)
      have hE := HW.out
      rw [whA_end (by rw [HL.out]; omega)] at hE
      have HE : Hid (k = n) := Lib.hid (by rw [HN.out]; omega)
      clear HW hE
      go_wp2_with fail
      go_ret
      obtain rfl := HE.out
      exact ⟨rfl, rfl⟩
    case pos =>
      have hd : decide (((a : Int) + k) < s.size) = true := decide_eq_true (by omega)
      have hi0 : (0 : Int) ≤ (a : Int) + k := by omega
      have hi1 : ((a : Int) + k) < s.size := by omega
      have hbt := getElem_bt hlt
      obtain ⟨d1, hd1⟩ : ∃ q, decide ((48 : Int) ≤ ((s[a + k]'hlt).toNat : Int)) = q := ⟨_, rfl⟩
      obtain ⟨d2, hd2⟩ : ∃ q, decide (((s[a + k]'hlt).toNat : Int) ≤ 57) = q := ⟨_, rfl⟩
      have hdig : digB (bt s.data.toList (a + k)) = (d1 && d2) := by rw [← hbt, ← hd1, ← hd2]; rfl
      have hend : (d1 && d2) = false → Hid (k = n) := fun h => Lib.hid (by
        rw [HN.out]
        have hE := HW.out
        rw [whA_no (by rw [HL.out]; exact hlt) (by rw [hdig]; exact h)] at hE
        omega)
      have hyes : (d1 && d2) = true → Hid (whA s.data.toList digB (a + (k + 1)) = whA s.data.toList digB a) := fun h => Lib.hid (by
        have hE := HW.out
        rw [whA_yes (by rw [HL.out]; exact hlt) (by rw [hdig]; exact h)] at hE
        exact hE)
      clear hdig HW hbt
      cases d1
      case false =>
        have HE := hend rfl
        clear hend hyes
        go_wp2_with fail
        go_ret
        obtain rfl := HE.out
        exact ⟨rfl, rfl⟩
      case true =>
        cases d2
        case false =>
          have HE := hend rfl
          clear hend hyes
          go_wp2_with fail
          go_ret
          obtain rfl := HE.out
          exact ⟨rfl, rfl⟩
        case true =>
          have HY := hyes rfl
          clear hend hyes
          go_wp2_with fail
          exact ⟨⟨trivial, k + 1, by omega, rfl, HY⟩, by (simp only [intOf]; omega)⟩
set_option maxRecDepth 100000 in
set_option maxHeartbeats 1600000 in
theorem number_any (s : ByteArray) (w : World) (hs : s.size ≤ 4611686018427387904) (hdg : ∀ c ∈ s.data.toList, 48 ≤ c.toNat ∧ c.toNat ≤ 57) (R : Option Nat) (hR : numD 0 s.data.toList = R) :
    Calls Tryz.prog 177 #[.string s] w fun e w' => e = .returned (.tuple #[.int .i64 ((R.getD 0 : Nat) : Int), .bool R.isSome]) ∧ w' = w := by
  have HL : Hid (s.data.toList.length = s.size) := Lib.hid (by simp)
  have H0 : Hid (numD 0 (s.data.toList.drop 0) = R) := Lib.hid hR
  have HD := Lib.hid hdg
  clear hR hdg
  go_enter Tryz.func177, Tryz.ntmps177
  go_wp2_with fail
  go_loopw [4, 9] (fun n i wr => wr = w ∧ ∃ k m : Nat, k ≤ s.size ∧ i = .int .i64 k ∧ n = .int .i64 m ∧ m ≤ 9223372036854775807 ∧ Hid (numD m (s.data.toList.drop k) = R)) (fun _ i _ => s.size - (intOf i).toNat)
  case atStart => exact ⟨rfl, 0, 0, by omega, rfl, rfl, by omega, H0⟩
  case round =>
    clear H0
    obtain ⟨rfl, k, m, hk, rfl, rfl, hm, HR⟩ := hrel
    by_cases hlt : k < s.size
    case neg =>
      have hd : decide ((k : Int) < s.size) = false := decide_eq_false (by omega)
      have hE := HR.out
      rw [List.drop_of_length_le (by rw [HL.out]; omega)] at hE
      simp only [numD] at hE
      obtain rfl := hE
      clear HR
      go_wp2_with fail
      go_ret2
      exact ⟨rfl, rfl⟩
    case pos =>
      have hd : decide ((k : Int) < s.size) = true := decide_eq_true (by omega)
      have hi0 : (0 : Int) ≤ k := by omega
      have hi1 : (k : Int) < s.size := by omega
      have hc := HD.out (s[k]'hlt) (by
        have : s.data.toList[k]'(by rw [HL.out]; exact hlt) = s[k]'hlt := rfl
        rw [← this]; exact List.getElem_mem _)
      have hE := HR.out
      rw [List.drop_eq_getElem_cons (by rw [HL.out]; exact hlt)] at hE
      unfold numD at hE
      have hce : s.data.toList[k]'(by rw [HL.out]; exact hlt) = s[k]'hlt := rfl
      rw [hce] at hE
      obtain ⟨d, hdd⟩ : ∃ d : Nat, d = (s[k]'hlt).toNat - 48 := ⟨_, rfl⟩
      rw [← hdd] at hE
      have e1 : IntKind.u8.wrap (((s[k]'hlt).toNat : Int) - 48) = (d : Int) := by rw [IntKind.wrap_u8]; omega
      have e3 : IntKind.i64.wrap (9223372036854775807 - (d : Int)) = 9223372036854775807 - (d : Int) := IntWalk.i64_in _ (by omega)
      obtain ⟨q, hq⟩ : ∃ q : Nat, q = (9223372036854775807 - d) / 10 := ⟨_, rfl⟩
      rw [← hq] at hE
      have e4 : (9223372036854775807 - (d : Int)).tdiv 10 = (q : Int) := by rw [Int.tdiv_eq_ediv_of_nonneg (by omega)]; omega
      have e5 : IntKind.i64.wrap (q : Int) = (q : Int) := IntWalk.i64_in _ (by omega)
      have HQ := Lib.hid hq
      have hd9 : d ≤ 9 := by omega
      have hq9 : q ≤ 922337203685477580 := by omega
      clear hq hce HR hc hdd
      by_cases hgt : q < m
      · rw [if_pos hgt] at hE
        obtain rfl := hE
        have c1 : decide ((q : Int) < m) = true := decide_eq_true (by omega)
        have c2 : decide (q < m) = true := decide_eq_true hgt
        go_wp2_with fail
        go_ret2
        exact ⟨rfl, rfl⟩
      · rw [if_neg hgt] at hE
        have c1 : decide ((q : Int) < m) = false := decide_eq_false (by omega)
        have c2 : decide (q < m) = false := decide_eq_false hgt
        have c3 : m ≤ q := by omega
        have hmx : m * 10 + d ≤ 9223372036854775807 := by have := HQ.out; omega
        have e6 : IntKind.i64.wrap ((m : Int) * 10) = (m : Int) * 10 := IntWalk.i64_in _ (by omega)
        have e7 : IntKind.i64.wrap ((m : Int) * 10 + d) = (m : Int) * 10 + d := IntWalk.i64_in _ (by omega)
        have HE := Lib.hid hE
        clear hE
        go_wp2_with fail
        exact ⟨⟨trivial, k + 1, m * 10 + d, by omega, rfl, congrArg (Value.int .i64) (by omega), hmx, HE⟩, by (simp only [intOf]; omega)⟩
end
section
theorem minus_pre (l : List UInt8) : Lib.hasPrefix l [45] = minusD l := by
  unfold Lib.hasPrefix minusD
  cases l with
  | nil => rfl
  | cons c cs =>
    have e : bt (c :: cs) 0 = (c.toNat : Int) := rfl
    rw [e]
    have : ([45] : List UInt8).isPrefixOf (c :: cs) = (45 == c) := by simp [List.isPrefixOf]
    rw [this]
    exact u8_is c 45
theorem startD_le (l : List UInt8) : startD l ≤ l.length := by
  unfold startD
  split
  · rename_i h
    cases l with
    | nil => simp [minusD, bt] at h
    | cons c cs => simp
  · exact Nat.zero_le _
/-- What cut tells. -/
def CutE (R : Option (List UInt8 × List UInt8) × Nat) (e : Ending) : Prop :=
  e = .returned (.tuple #[.string (mkS ((R.1.map Prod.fst).getD [])), .string (mkS ((R.1.map Prod.snd).getD [])), .int .i64 (R.2 : Int), .bool R.1.isSome])
set_option maxRecDepth 100000 in
set_option maxHeartbeats 3200000 in
theorem cut_any (s : ByteArray) (w : World) (hs : s.size ≤ 4611686018427387904) :
    Calls Tryz.prog 175 #[.string s] w fun e w' => CutE (cutD s.data.toList) e ∧ Aw [] w w' := by
  have hL : s.data.toList.length = s.size := by simp
  have kP := fun W => Tryz.strings_HasPrefix s ⟨#[45]⟩ W
  have e45 : Lib.hasPrefix s.data.toList (⟨#[45]⟩ : ByteArray).data.toList = minusD s.data.toList := minus_pre _
  rw [e45] at kP
  have h0 := startD_le s.data.toList
  obtain ⟨R, hR⟩ : ∃ R, cutD s.data.toList = R := ⟨_, rfl⟩
  rw [hR]
  unfold cutD at hR
  obtain ⟨a0, ha0⟩ : ∃ a0, startD s.data.toList = a0 := ⟨_, rfl⟩
  rw [ha0] at hR h0
  have h1 := whA_le s.data.toList digB a0 h0
  have kD := fun W => digits_any s a0 W (by omega) hs
  obtain ⟨n1, hn1⟩ : ∃ n1, whA s.data.toList digB a0 = a0 + n1 := ⟨whA s.data.toList digB a0 - a0, by omega⟩
  rw [hn1] at hR h1 kD
  rw [Nat.add_sub_cancel_left] at kD
  rw [hL] at h0 h1 hR
  unfold startD at ha0
  clear e45
  have i1 : (0 : Int) ≤ a0 := by omega
  have i2 : (a0 : Int) ≤ (a0 : Int) + n1 := by omega
  have i3 : (a0 : Int) + n1 ≤ s.size := by omega
  have i4 : ((a0 : Int) + n1).toNat = a0 + n1 := by omega
  have i5 : IntKind.i64.wrap ((a0 : Int) + n1) = (a0 : Int) + n1 := IntWalk.i64_in _ (by omega)
  generalize hm : minusD s.data.toList = m at kP ha0
  go_enter Tryz.func175, Tryz.ntmps175
  go_upto_if 10 with (go_at_call 211; (with_reducible refine (kP _).mono ?_); rintro e w1 ⟨rfl, hw1⟩; rw [hw1]; clear hw1 w1)
  go_cut [6] from 9 to 10 (fun v wx => v = .int .i64 (a0 : Int) ∧ wx = w)
  case first =>
    cases m
    all_goals
      simp only [Bool.false_eq_true, if_false, if_true] at ha0
      subst ha0
      go_wp2_with fail
      go_meet
      exact ⟨rfl, rfl⟩
  case rest =>
    obtain ⟨rfl, rfl⟩ := hcut
    clear kP
    go_upto_region 7 with (go_at_call 212; refine (kD _).mono ?_; rintro e w1 ⟨rfl, hw1⟩; rw [hw1]; clear hw1 w1)
    rw [ext_cut]
    generalize hW : mkS (cutL s.data.toList a0 (a0 + n1)) = VW
    have HW := Lib.hid hW
    clear hW
    by_cases hz : n1 = 0
    · subst hz
      rw [if_pos (by simp)] at hR
      subst hR
      go_wp2_with fail
      refine bodyPost_ret (v := .tuple #[.string ⟨#[]⟩, .string ⟨#[]⟩, .int .i64 ((a0 : Int) + ((0 : Nat) : Int)), .bool false]) (by simp [results, Tryz.results175, go_sem]) rfl ⟨?_, Aw.refl _ _⟩
      simp [CutE, mkS]
    · have z1 : ((n1 : Int) == 0) = false := by rw [beq_eq_false_iff_ne]; omega
      have z0 : (a0 + n1 == a0) = false := by rw [beq_eq_false_iff_ne]; omega
      rw [z0] at hR
      by_cases hlt : a0 + n1 < s.size
      · have hd : decide ((a0 : Int) + n1 < s.size) = true := decide_eq_true (by omega)
        have i6 : (0 : Int) ≤ (a0 : Int) + n1 := by omega
        have i7 : (a0 : Int) + n1 < s.size := by omega
        have hbt := getElem_bt hlt
        cases h46 : (bt s.data.toList (a0 + n1) == 46)
        · rw [h46] at hR
          simp only [Bool.false_or, Bool.not_false, Bool.and_true, hlt, decide_true, if_true] at hR
          subst hR
          have z2 : (((s[a0 + n1]'hlt).toNat : Int) != 46) = true := by rw [bne, hbt, h46]; rfl
          clear h46 hbt
          go_wp2_with fail
          refine bodyPost_ret (v := .tuple #[.string ⟨#[]⟩, .string ⟨#[]⟩, .int .i64 ((a0 : Int) + n1), .bool false]) (by simp [results, Tryz.results175, go_sem]) rfl ⟨?_, Aw.refl _ _⟩
          simp [CutE, mkS]
        · rw [h46] at hR
          have ne1 : (a0 + n1 == s.size) = false := by rw [beq_eq_false_iff_ne]; omega
          simp only [Bool.false_or, Bool.not_true, Bool.and_false, Bool.false_eq_true, if_false, ne1] at hR
          have z2 : (((s[a0 + n1]'hlt).toNat : Int) != 46) = false := by rw [bne, hbt, h46]; rfl
          have z3 : ((a0 : Int) + n1 == (s.size : Int)) = false := by rw [beq_eq_false_iff_ne]; omega
          have h2 := whA_le s.data.toList digB (a0 + n1 + 1) (by rw [hL]; omega)
          have kD2 : ∀ W, Calls Tryz.prog 212 #[.string s, .int .i64 ((a0 : Int) + n1 + 1)] W fun e w' => e = .returned (.int .i64 ((whA s.data.toList digB (a0 + n1 + 1) - (a0 + n1 + 1) : Nat) : Int)) ∧ w' = W := fun W => digits_any s (a0 + n1 + 1) W (by omega) hs
          obtain ⟨n2, hn2⟩ : ∃ n2, whA s.data.toList digB (a0 + n1 + 1) = a0 + n1 + 1 + n2 := ⟨whA s.data.toList digB (a0 + n1 + 1) - (a0 + n1 + 1), by omega⟩
          rw [hn2] at hR h2 kD2
          rw [Nat.add_sub_cancel_left] at kD2
          rw [hL] at h2
          have i8 : (0 : Int) ≤ (a0 : Int) + n1 + 1 := by omega
          have i9 : (a0 : Int) + n1 + 1 ≤ s.size := by omega
          have i10 : ((a0 : Int) + n1 + 1).toNat = a0 + n1 + 1 := by omega
          have i11 : IntKind.i64.wrap ((a0 : Int) + n1 + 1) = (a0 : Int) + n1 + 1 := IntWalk.i64_in _ (by omega)
          have i12 : IntKind.i64.wrap ((a0 : Int) + n1 + 1 + n2) = (a0 : Int) + n1 + 1 + n2 := IntWalk.i64_in _ (by omega)
          clear h46 hbt
          by_cases hz2 : n2 = 0
          · subst hz2
            rw [if_pos (by simp)] at hR
            subst hR
            go_wp2_with (go_at_call 212; refine (kD2 _).mono ?_; rintro e w1 ⟨rfl, hw1⟩; rw [hw1]; clear hw1 w1)
            refine bodyPost_ret (v := .tuple #[.string ⟨#[]⟩, .string ⟨#[]⟩, .int .i64 ((a0 : Int) + n1 + 1 + ((0 : Nat) : Int)), .bool false]) (by simp [results, Tryz.results175, go_sem]) rfl ⟨?_, Aw.refl _ _⟩
            simp [CutE, mkS]
          · have z4 : ((n2 : Int) == 0) = false := by rw [beq_eq_false_iff_ne]; omega
            have z5 : (a0 + n1 + 1 + n2 == a0 + n1 + 1) = false := by rw [beq_eq_false_iff_ne]; omega
            rw [z5] at hR
            by_cases hlt2 : a0 + n1 + 1 + n2 < s.size
            · have hd2 : decide ((a0 : Int) + n1 + 1 + n2 < s.size) = true := decide_eq_true (by omega)
              simp only [Bool.false_or, hlt2, decide_true, if_true] at hR
              subst hR
              go_wp2_with (go_at_call 212; refine (kD2 _).mono ?_; rintro e w1 ⟨rfl, hw1⟩; rw [hw1]; clear hw1 w1)
              refine bodyPost_ret (v := .tuple #[.string ⟨#[]⟩, .string ⟨#[]⟩, .int .i64 ((a0 : Int) + n1 + 1 + n2), .bool false]) (by simp [results, Tryz.results175, go_sem]) rfl ⟨?_, Aw.refl _ _⟩
              simp [CutE, mkS]
            · have hd2 : decide ((a0 : Int) + n1 + 1 + n2 < s.size) = false := decide_eq_false (by omega)
              simp only [Bool.false_or, hlt2, decide_false, Bool.false_eq_true, if_false] at hR
              subst hR
              go_wp2_with (go_at_call 212; refine (kD2 _).mono ?_; rintro e w1 ⟨rfl, hw1⟩; rw [hw1]; clear hw1 w1)
              go_quiet (fail)
              go_wp2_with fail
              have hp : a0 + n1 + 1 + n2 = s.size := by omega
              refine bodyPost_ret (v := .tuple #[.string VW, .string (s.extract (a0 + n1 + 1) s.size), .int .i64 ((a0 : Int) + n1 + 1 + n2), .bool true]) (by simp [results, Tryz.results175, go_sem]) rfl ⟨?_, (Aw.refl _ _).drewN _⟩
              rw [ext_cut, ← hp]
              simp [CutE, mkS]
              exact HW.out.symm
      · have hd : decide ((a0 : Int) + n1 < s.size) = false := decide_eq_false (by omega)
        have z3 : ((a0 : Int) + n1 == (s.size : Int)) = true := by rw [beq_iff_eq]; omega
        have ne1 : (a0 + n1 == s.size) = true := by rw [beq_iff_eq]; omega
        simp only [Bool.false_or, hlt, decide_false, Bool.false_and, Bool.false_eq_true, if_false, ne1, if_true] at hR
        subst hR
        go_wp2_with fail
        refine bodyPost_ret (v := .tuple #[.string VW, .string ⟨#[]⟩, .int .i64 ((a0 : Int) + n1), .bool true]) (by simp [results, Tryz.results175, go_sem]) rfl ⟨?_, Aw.refl _ _⟩
        simp [CutE, mkS]
        exact HW.out.symm
end
section
theorem take_while (q : UInt8 → Bool) : ∀ x : List UInt8, x.take (x.takeWhile q).length = x.takeWhile q
  | [] => rfl
  | c :: cs => by
    cases h : q c
    · simp [h]
    · simp [h, take_while q cs]
theorem while_all (q : UInt8 → Bool) : ∀ x : List UInt8, ∀ c ∈ x.takeWhile q, q c = true
  | [], c, h => by simp at h
  | d :: cs, c, h => by
    cases hd : q d
    · simp [hd] at h
    · simp only [List.takeWhile_cons, hd, if_true, List.mem_cons] at h
      rcases h with rfl | h
      · exact hd
      · exact while_all q cs c h
theorem cut_whA {l : List UInt8} {p : Int → Bool} {a : Nat} : ∀ c ∈ cutL l a (whA l p a), p c.toNat = true := by
  intro c hc
  unfold cutL whA at hc
  rw [Nat.add_sub_cancel_left, take_while] at hc
  exact while_all (fun c => p c.toNat) _ c hc
theorem dig_range {c : UInt8} (h : digB c.toNat = true) : 48 ≤ c.toNat ∧ c.toNat ≤ 57 := by
  unfold digB at h
  simp only [Bool.and_eq_true, decide_eq_true_eq] at h
  omega
theorem cutD_dig {l wl pl : List UInt8} {a : Nat} (h : cutD l = (some (wl, pl), a)) : (∀ c ∈ wl, 48 ≤ c.toNat ∧ c.toNat ≤ 57) ∧ (∀ c ∈ pl, 48 ≤ c.toNat ∧ c.toNat ≤ 57) ∧ wl.length + pl.length ≤ l.length ∧ 0 < l.length := by
  have h0 := startD_le l
  have h1 := whA_le l digB (startD l) h0
  unfold cutD at h
  split at h
  · injection h with h _; cases h
  rename_i q1
  have hne : whA l digB (startD l) ≠ startD l := by
    intro e; apply q1; rw [e]; simp
  split at h
  · rename_i q2
    injection h with h _
    injection h with h
    injection h with h2 h3
    subst h2 h3
    refine ⟨fun c hc => dig_range (cut_whA c hc), by simp, ?_, by omega⟩
    rw [cutL_len l _ _ h1.2]; simp; omega
  · rename_i q2
    split at h
    · injection h with h _; cases h
    · injection h with h _
      injection h with h
      injection h with h2 h3
      subst h2 h3
      have hlt : whA l digB (startD l) < l.length := by
        have : whA l digB (startD l) ≠ l.length := by simpa using q2
        omega
      have h4 := whA_le l digB (whA l digB (startD l) + 1) (by omega)
      refine ⟨fun c hc => dig_range (cut_whA c hc), fun c hc => dig_range (cut_whA c hc), ?_, by omega⟩
      rw [cutL_len l _ _ h1.2, cutL_len l _ _ h4.2]; omega
/-- What Parse tells. -/
def ParseE (R : (Int × Nat) × Nat × Nat) (e : Ending) : Prop := e = .returned (.tuple #[.agg #[.int .i64 R.1.1, .int .i64 (R.1.2 : Int)], .int .i64 (R.2.1 : Int), .int .i64 (R.2.2 : Int)])
set_option maxRecDepth 100000 in
set_option maxHeartbeats 3200000 in
theorem parse_any (s : ByteArray) (w : World) (hs : s.size ≤ 1048576) :
    Calls Tryz.prog 126 #[.string s] w fun e w' => ParseE (parseD s.data.toList) e ∧ Aw [] w w' := by
  have hs2 : s.size ≤ 4611686018427387904 := Nat.le_trans hs (by decide)
  have hL : s.data.toList.length = s.size := by simp
  have kC := fun W => cut_any s W hs2
  have hB := Blk.new w 71 #[.int .i64 0, .int .i64 0]
  obtain ⟨R, hR⟩ : ∃ R, parseD s.data.toList = R := ⟨_, rfl⟩
  rw [hR]
  unfold parseD at hR
  obtain ⟨o, a, hc⟩ : ∃ o a, cutD s.data.toList = (o, a) := ⟨_, _, rfl⟩
  rw [hc] at kC hR
  cases o with
  | none =>
    simp only at hR
    subst hR
    simp only [CutE, Option.map_none, Option.getD_none, Option.isSome_none] at kC
    clear hc
    go_enter Tryz.func126, Tryz.ntmps126
    go_wp2_with (go_at_call 175; refine (kC _).mono ?_; rintro e w1 ⟨rfl, hA1⟩; have hB1 := Blk.aw hB hA1 (by simp); have c0 := (Blk.cell hB1 0).trans rfl; have c1 := (Blk.cell hB1 1).trans rfl; have f0 := Blk.frozen hB1 0; have f1 := Blk.frozen hB1 1)
    refine bodyPost_ret (v := .tuple #[.agg #[.int .i64 0, .int .i64 0], .int .i64 11, .int .i64 (a : Int)]) (by simp [results, Tryz.results126, go_sem, c0, c1]) rfl ⟨rfl, (((((Aw.refl _ _).alloc _).trans hA1).setCell (.inr (Nat.le_refl _)) _).setCell (.inr (Nat.le_refl _)) _)⟩
  | some v =>
    obtain ⟨wl, pl⟩ := v
    obtain ⟨g1, g2, g3, g4⟩ := cutD_dig hc
    rw [hL] at g3 g4
    simp only [CutE, Option.map_some, Option.getD_some, Option.isSome_some] at kC
    simp only at hR
    have t1 := trimL0_len wl
    have t2 := trimR0_len pl
    have kR := fun W => Tryz.strings_TrimRight_one (mkS pl) 48 (by decide) W (by show pl.length ≤ _; omega)
    have kL := fun W => Tryz.strings_TrimLeft_one (mkS wl) 48 (by decide) W
    have eR : (⟨(Lib.trimRightB (mkS pl).data.toList 48).toArray⟩ : ByteArray) = mkS (trimR0 pl) := rfl
    have eL : (⟨(Lib.trimLeftB (mkS wl).data.toList 48).toArray⟩ : ByteArray) = mkS (trimL0 wl) := rfl
    rw [eR] at kR
    rw [eL] at kL
    obtain ⟨N, hN⟩ : ∃ N, numD 0 (trimL0 wl ++ trimR0 pl) = N := ⟨_, rfl⟩
    rw [hN] at hR
    have hdig : ∀ c ∈ trimL0 wl ++ trimR0 pl, 48 ≤ c.toNat ∧ c.toNat ≤ 57 := by
      intro c hc
      rcases List.mem_append.1 hc with hc | hc
      · exact g1 c ((List.dropWhile_sublist _).subset hc)
      · have h1 := List.mem_reverse.1 hc
        have h2 := (List.dropWhile_sublist _).subset h1
        exact g2 c (List.mem_reverse.1 h2)
    have kM : ∀ W, Calls Tryz.prog 177 #[.string (mkS (trimL0 wl) ++ mkS (trimR0 pl))] W fun e w' => e = .returned (.tuple #[.int .i64 ((N.getD 0 : Nat) : Int), .bool N.isSome]) ∧ w' = W := fun W => by
      rw [mk_app]
      exact number_any (mkS (trimL0 wl ++ trimR0 pl)) W (by show (trimL0 wl ++ trimR0 pl).length ≤ _; rw [List.length_append]; omega) hdig N hN
    have hNm : ∀ m, N = some m → m ≤ 9223372036854775807 := fun m h => numD_le _ 0 m (by omega) (fun c hc => (hdig c hc).2) (hN.trans h)
    have hsz : (mkS (trimR0 pl)).size = (trimR0 pl).length := rfl
    have hsz2 : (mkS (trimL0 wl)).size = (trimL0 wl).length := rfl
    have l1 : ¬ 9223372036854775807 < (mkS (trimL0 wl)).size + (mkS (trimR0 pl)).size := by omega
    generalize (trimR0 pl).length = n at hsz hR t2
    generalize mkS (trimL0 wl) = SL at kL kM hsz2 l1
    generalize mkS (trimR0 pl) = SR at kR kM hsz l1
    generalize mkS wl = S1 at kC kL
    generalize mkS pl = S2 at kC kR
    have hn : SR.size = n := hsz
    clear hdig hN g1 g2 hc eR eL hsz2 hsz
    cases N with
    | none =>
      simp only at hR
      subst hR
      simp only [Option.getD_none, Option.isSome_none] at kM
      go_enter Tryz.func126, Tryz.ntmps126
      go_wp2_with first
        | (go_at_call 175; refine (kC _).mono ?_; rintro e w1 ⟨rfl, hA1⟩; have hB1 := Blk.aw hB hA1 (by simp); have c0 := (Blk.cell hB1 0).trans rfl; have c1 := (Blk.cell hB1 1).trans rfl; have f0 := Blk.frozen hB1 0; have f1 := Blk.frozen hB1 1)
        | (go_at_call 176; refine (kR _).mono ?_; rintro e w2 ⟨rfl, rfl⟩)
        | (go_at_call 178; refine (kL _).mono ?_; rintro e w3 ⟨rfl, rfl⟩)
        | (go_at_call 177; refine (kM _).mono ?_; rintro e w4 ⟨rfl, rfl⟩)
      refine bodyPost_ret (v := .tuple #[.agg #[.int .i64 0, .int .i64 0], .int .i64 12, .int .i64 0]) (by simp [results, Tryz.results126, go_sem, c0, c1]) rfl ⟨rfl, (((((Aw.refl _ _).alloc _).trans hA1).setCell (.inr (Nat.le_refl _)) _).setCell (.inr (Nat.le_refl _)) _)⟩
    | some m =>
      have hm := hNm m rfl
      clear hNm
      simp only [Option.getD_some, Option.isSome_some] at kM
      simp only at hR
      by_cases h18 : 18 < n
      · rw [if_pos h18] at hR
        subst hR
        have d18 : decide ((18 : Int) < (SR.size : Int)) = true := decide_eq_true (by omega)
        have d18n : decide (18 < SR.size) = true := decide_eq_true (by omega)
        go_enter Tryz.func126, Tryz.ntmps126
        go_wp2_with first
          | (go_at_call 175; refine (kC _).mono ?_; rintro e w1 ⟨rfl, hA1⟩; have hB1 := Blk.aw hB hA1 (by simp); have c0 := (Blk.cell hB1 0).trans rfl; have c1 := (Blk.cell hB1 1).trans rfl; have f0 := Blk.frozen hB1 0; have f1 := Blk.frozen hB1 1)
          | (go_at_call 176; refine (kR _).mono ?_; rintro e w2 ⟨rfl, rfl⟩)
          | (go_at_call 178; refine (kL _).mono ?_; rintro e w3 ⟨rfl, rfl⟩)
          | (go_at_call 177; refine (kM _).mono ?_; rintro e w4 ⟨rfl, rfl⟩)
        refine bodyPost_ret (v := .tuple #[.agg #[.int .i64 0, .int .i64 0], .int .i64 12, .int .i64 0]) (by simp [results, Tryz.results126, go_sem, c0, c1]) rfl ⟨rfl, (((((Aw.refl _ _).alloc _).trans hA1).setCell (.inr (Nat.le_refl _)) _).setCell (.inr (Nat.le_refl _)) _)⟩
      · rw [if_neg h18] at hR
        have d18 : decide ((18 : Int) < (SR.size : Int)) = false := decide_eq_false (by omega)
        have d18n : decide (18 < SR.size) = false := decide_eq_false (by omega)
        have i1 : (0 : Int) ≤ 0 := by omega
        have i2 : (0 : Int) < s.size := by omega
        have i3 : IntKind.i64.wrap (-(m : Int)) = -(m : Int) := IntWalk.i64_in _ (by omega)
        have hbt := getElem_bt g4
        cases hmin : minusD s.data.toList
        · rw [hmin] at hR
          simp only [Bool.false_eq_true, if_false] at hR
          subst hR
          have z2 : (((s[0]'g4).toNat : Int) == 45) = false := by rw [hbt]; exact hmin
          clear hbt hmin
          go_enter Tryz.func126, Tryz.ntmps126
          go_wp2_with first
            | (go_at_call 175; refine (kC _).mono ?_; rintro e w1 ⟨rfl, hA1⟩; have hB1 := Blk.aw hB hA1 (by simp); have c0 := (Blk.cell hB1 0).trans rfl; have c1 := (Blk.cell hB1 1).trans rfl; have f0 := Blk.frozen hB1 0; have f1 := Blk.frozen hB1 1)
            | (go_at_call 176; refine (kR _).mono ?_; rintro e w2 ⟨rfl, rfl⟩)
            | (go_at_call 178; refine (kL _).mono ?_; rintro e w3 ⟨rfl, rfl⟩)
            | (go_at_call 177; refine (kM _).mono ?_; rintro e w4 ⟨rfl, rfl⟩)
          refine bodyPost_ret (v := .tuple #[.agg #[.int .i64 ((m : Int)), .int .i64 (n : Int)], .int .i64 0, .int .i64 0]) (by simp [results, Tryz.results126, go_sem, c0, c1]) rfl ⟨rfl, (((((Aw.refl _ _).alloc _).trans hA1).setCell (.inr (Nat.le_refl _)) _).setCell (.inr (Nat.le_refl _)) _)⟩
        · rw [hmin] at hR
          simp only [if_true] at hR
          subst hR
          have z2 : (((s[0]'g4).toNat : Int) == 45) = true := by rw [hbt]; exact hmin
          clear hbt hmin
          go_enter Tryz.func126, Tryz.ntmps126
          go_wp2_with first
            | (go_at_call 175; refine (kC _).mono ?_; rintro e w1 ⟨rfl, hA1⟩; have hB1 := Blk.aw hB hA1 (by simp); have c0 := (Blk.cell hB1 0).trans rfl; have c1 := (Blk.cell hB1 1).trans rfl; have f0 := Blk.frozen hB1 0; have f1 := Blk.frozen hB1 1)
            | (go_at_call 176; refine (kR _).mono ?_; rintro e w2 ⟨rfl, rfl⟩)
            | (go_at_call 178; refine (kL _).mono ?_; rintro e w3 ⟨rfl, rfl⟩)
            | (go_at_call 177; refine (kM _).mono ?_; rintro e w4 ⟨rfl, rfl⟩)
          refine bodyPost_ret (v := .tuple #[.agg #[.int .i64 (-(m : Int)), .int .i64 (n : Int)], .int .i64 0, .int .i64 0]) (by simp [results, Tryz.results126, go_sem, c0, c1]) rfl ⟨rfl, (((((Aw.refl _ _).alloc _).trans hA1).setCell (.inr (Nat.le_refl _)) _).setCell (.inr (Nat.le_refl _)) _)⟩
end
end Go.Proofs.YtcapbikelgcmmaaGreatDoor
