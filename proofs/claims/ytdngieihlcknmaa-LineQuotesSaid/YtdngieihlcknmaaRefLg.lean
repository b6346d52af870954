/- The walks of the reference's Bad and Value for the line format. -/
import Derived.Test.YtdngieihlcknmaaUtfRef
import Derived.Test.YtdngieihlcknmaaQuiet2
import Derived.Deep.QuietTactic
import Derived.BigQuiet
namespace Go.Proofs.Ytdngieihlcknmaa
set_option linter.unusedVariables false
set_option linter.unusedSimpArgs false
open Go.RowKit
/-- May the byte stand there in a name of the line format? -/
def lgL (wh : Int) (l : List UInt8) (i : Nat) : Bool := decide (32 ≤ bt l i ∧ bt l i ≤ 126 ∧ bt l i ≠ 92 ∧ (bt l i ≠ 35 ∨ 0 < i ∨ wh = 1))
def badFromL (wh : Int) (l : List UInt8) : Nat → Nat → Int
  | 0, _ => -1
  | n + 1, k => if lgL wh l k = true then badFromL wh l n (k + 1) else k
theorem badFromL_all {wh : Int} {l : List UInt8} : ∀ n k, badFromL wh l n k < 0 → ∀ i, k ≤ i → i < k + n → lgL wh l i = true
  | 0, k, _, i, h1, h2 => by omega
  | n + 1, k, h, i, h1, h2 => by
    unfold badFromL at h
    split at h
    · rename_i hk
      rcases Nat.eq_or_lt_of_le h1 with rfl | h'
      · exact hk
      · exact badFromL_all n (k + 1) h i h' (by omega)
    · omega
set_option maxRecDepth 100000 in
set_option maxHeartbeats 800000 in
theorem refLegalL_any (wh : Int) (hwh : wh = 0 ∨ wh = 1) (s : ByteArray) (k : Nat) (w : World) (_h2 : s.size ≤ 9223372036854775807) (h1 : k < s.size) :
    Calls Try.prog 29 #[.int .i64 2, .int .i64 wh, .string s, .int .i64 (k : Int)] w fun e w' => e = .returned (.bool (lgL wh s.data.toList k)) ∧ w = w' := by
  have Hc : Hid (bt s.data.toList k = ((s[k]'(by omega)).toNat : Int)) := (getElem_bt (by omega)).symm
  have h0 : (0 : Int) ≤ k := by omega
  have h1' : (k : Int) < s.size := by omega
  rcases hwh with rfl | rfl
  all_goals
    by_cases hq : k = 0
    · have hz : ((k : Int) == 0) = true := beq_iff_eq.2 (by omega)
      have Hq := Lib.hid hq
      clear hq
      go_enter Try.func29, Try.ntmps29
      go_wp2_with fail
      all_goals go_ret
      all_goals refine ⟨ret_bool (bcl ?_), rfl⟩
      all_goals simp only [lgL, decide_eq_true_eq, true_and, true_or, or_true, Hc.out, bne_iff_ne, ne_eq, Bool.false_eq_true, false_iff, true_iff]
      all_goals (have hq := Hq.out; first | omega | (simp; omega) | (clear hq; simp [*]; omega))
    · have hz : ((k : Int) == 0) = false := beq_eq_false_iff_ne.2 (by omega)
      have hpos : 0 < k := by omega
      clear hq
      go_enter Try.func29, Try.ntmps29
      go_wp2_with fail
      all_goals go_ret
      all_goals refine ⟨ret_bool (bcl ?_), rfl⟩
      all_goals simp only [lgL, decide_eq_true_eq, true_and, true_or, or_true, Hc.out, bne_iff_ne, ne_eq, Bool.false_eq_true, false_iff, true_iff]
      all_goals first | omega | (simp; omega) | (simp [*]; omega)
set_option maxHeartbeats 800000 in
theorem refBadL_any (wh : Int) (hwh : wh = 0 ∨ wh = 1) (s : ByteArray) (w : World) (h2 : s.size ≤ 9223372036854775807) :
    Calls Try.prog 18 #[.int .i64 2, .int .i64 wh, .string s] w fun e w' => e = .returned (.int .i64 (badFromL wh s.data.toList s.size 0)) ∧ w = w' := by
  go_enter Try.func18, Try.ntmps18
  go_wp2_with fail
  go_loop [7] (fun i => ∃ k : Nat, k ≤ s.size ∧ i = .int .i64 k ∧ badFromL wh s.data.toList s.size 0 = badFromL wh s.data.toList (s.size - k) k) (fun i => s.size - (intOf i).toNat)
  case atStart => exact ⟨0, by omega, rfl, rfl⟩
  case round =>
    obtain ⟨k, hk, rfl, hb0⟩ := hrel
    have Hb := Lib.hid hb0
    clear hb0
    by_cases hlt : k < s.size
    · cases hg : lgL wh s.data.toList k
      · have Hs : Hid (badFromL wh s.data.toList (s.size - k) k = k) := by
          rw [show s.size - k = (s.size - (k + 1)) + 1 from by omega]; simp [badFromL, hg, Hid]
        have kL := fun W => refLegalL_any wh hwh s k W h2 hlt
        rw [hg] at kL
        go_wp2_with (go_at_call 29; refine (kL _).mono ?_; rintro e w1 ⟨rfl, rfl⟩)
        go_ret
        exact ⟨ret_int (by rw [Hb.out, Hs.out]), rfl⟩
      · have Hs : Hid (badFromL wh s.data.toList (s.size - k) k = badFromL wh s.data.toList (s.size - (k + 1)) (k + 1)) := by
          rw [show s.size - k = (s.size - (k + 1)) + 1 from by omega]; simp [badFromL, hg, Hid]
        have kL := fun W => refLegalL_any wh hwh s k W h2 hlt
        rw [hg] at kL
        go_wp2_with (go_at_call 29; refine (kL _).mono ?_; rintro e w1 ⟨rfl, rfl⟩)
        go_round
        case rel => exact ⟨k + 1, by omega, by go_num, by rw [Hb.out, Hs.out]⟩
        case measure => simp [intOf]; omega
    · have Hs : Hid (badFromL wh s.data.toList (s.size - k) k = -1) := by
        rw [show s.size - k = 0 from by omega]; simp [badFromL, Hid]
      go_wp2_with fail
      go_ret
      exact ⟨ret_int (by rw [Hb.out, Hs.out]), rfl⟩
/-- May the text be a tag's value? -/
def vbL (l : List UInt8) (k : Nat) : Bool := decide (32 ≤ bt l k ∧ bt l k ≠ 127 ∧ bt l k ≠ 92)
def vlL (l : List UInt8) : Bool := decide (1 ≤ l.length ∧ l.length ≤ 60) && ((List.range l.length).all (vbL l) && decide (badU l < 0))
theorem vlL_no {l : List UInt8} {k : Nat} (hk : k < l.length) (h : vbL l k = false) : vlL l = false := by
  unfold vlL
  have : (List.range l.length).all (vbL l) = false := List.all_eq_false.2 ⟨k, List.mem_range.2 hk, by rw [h]; simp⟩
  rw [this]; simp
theorem vlL_yes {l : List UInt8} (h1 : 1 ≤ l.length) (h2 : l.length ≤ 60) (h : ∀ k, k < l.length → vbL l k = true) : vlL l = decide (badU l < 0) := by
  unfold vlL
  have : (List.range l.length).all (vbL l) = true := List.all_eq_true.2 fun k hk => h k (List.mem_range.1 hk)
  rw [this]; simp [h1, h2]
theorem vlL_get {l : List UInt8} (h : vlL l = true) : (1 ≤ l.length ∧ l.length ≤ 60) ∧ (∀ k, k < l.length → vbL l k = true) ∧ badU l < 0 := by
  unfold vlL at h
  simp only [Bool.and_eq_true, decide_eq_true_eq] at h
  exact ⟨h.1, fun k hk => List.all_eq_true.1 h.2.1 k (List.mem_range.2 hk), h.2.2⟩
set_option maxHeartbeats 1600000 in
theorem isProto2 (w : World) : Calls Try.prog 31 #[.int .i64 2] w fun e w' => e = .returned (.bool true) ∧ w' = w := by
  go_enter Try.func31, Try.ntmps31
  go_wp2_with fail
  go_ret
  exact ⟨rfl, rfl⟩
set_option maxHeartbeats 1600000 in
theorem refValueL_any (s : ByteArray) (w : World) (h2 : s.size ≤ 4611686018427387904) :
    Calls Try.prog 19 #[.int .i64 2, .string s] w fun e w' => e = .returned (.bool (vlL s.data.toList)) ∧ w' = w := by
  have hL : s.data.toList.length = s.size := by simp
  by_cases h1 : s.size < 1
  · have hv : vlL s.data.toList = false := by unfold vlL; rw [hL]; simp; intro h; omega
    have hd : decide ((s.size : Int) < 1) = true := decide_eq_true (by omega)
    rw [hv]
    go_enter Try.func19, Try.ntmps19
    go_wp2_with (go_at_call 31; refine (isProto2 _).mono ?_; rintro e w1 ⟨rfl, rfl⟩)
    go_ret
    exact ⟨rfl, rfl⟩
  have hd : decide ((s.size : Int) < 1) = false := decide_eq_false (by omega)
  by_cases h60 : 60 < s.size
  · have hv : vlL s.data.toList = false := by unfold vlL; rw [hL]; simp; intro h; omega
    have hd : decide ((60 : Int) < s.size) = true := decide_eq_true (by omega)
    rw [hv]
    go_enter Try.func19, Try.ntmps19
    go_wp2_with (go_at_call 31; refine (isProto2 _).mono ?_; rintro e w1 ⟨rfl, rfl⟩)
    go_ret
    exact ⟨rfl, rfl⟩
  have hd2 : decide ((60 : Int) < s.size) = false := decide_eq_false (by omega)
  have kB := fun W => refBadU_any s W h2
  obtain ⟨V, hV⟩ : ∃ V, vlL s.data.toList = V := ⟨_, rfl⟩
  have HV := Lib.hid hV
  have HL := Lib.hid hL
  rw [hV]
  clear hV hL
  generalize hB : badU s.data.toList = B at kB
  have HB := Lib.hid hB
  clear hB
  go_enter Try.func19, Try.ntmps19
  go_wp2_with (go_at_call 31; refine (isProto2 _).mono ?_; rintro e w1 ⟨rfl, rfl⟩)
  go_loop [5] (fun i => ∃ k : Nat, k ≤ s.size ∧ i = .int .i64 k ∧ Hid (∀ j, j < k → vbL s.data.toList j = true)) (fun i => s.size - (intOf i).toNat)
  case atStart => exact ⟨0, by omega, rfl, Lib.hid (fun j h => absurd h (by omega))⟩
  case round =>
    obtain ⟨k, hk, rfl, HA⟩ := hrel
    by_cases hlt : k < s.size
    case neg =>
      have hd3 : decide ((k : Int) < s.size) = false := decide_eq_false (by omega)
      obtain rfl : k = s.size := by omega
      have hV2 : V = decide (B < 0) := by
        rw [← HV.out, vlL_yes (by rw [HL.out]; omega) (by rw [HL.out]; omega) (fun j hj => HA.out j (by rw [← HL.out]; exact hj)), HB.out]
      subst hV2
      clear HA
      go_wp2_with (go_at_call 20; refine (kB _).mono ?_; rintro e w1 ⟨rfl, rfl⟩)
      go_ret
      exact ⟨rfl, rfl⟩
    case pos =>
      have hd3 : decide ((k : Int) < s.size) = true := decide_eq_true (by omega)
      have hi0 : (0 : Int) ≤ k := by omega
      have hi1 : (k : Int) < s.size := by omega
      have hbt := getElem_bt hlt
      have hvb : vbL s.data.toList k = decide (32 ≤ bt s.data.toList k ∧ bt s.data.toList k ≠ 127 ∧ bt s.data.toList k ≠ 92) := rfl
      rw [← hbt] at hvb
      have hno : vbL s.data.toList k = false → V = false := fun h => by rw [← HV.out]; exact vlL_no (by rw [HL.out]; exact hlt) h
      clear hbt
      generalize hC : ((s[k]'hlt).toNat : Int) = C at hvb
      by_cases c1 : C < 32
      · have d1 : decide (C < 32) = true := decide_eq_true c1
        obtain rfl := hno (by rw [hvb]; exact decide_eq_false (by omega))
        clear hvb hno HA
        go_wp2_with fail
        go_ret
        exact ⟨rfl, rfl⟩
      have d1 : decide (C < 32) = false := decide_eq_false c1
      by_cases c2 : C = 127
      · have d2 : (C == 127) = true := by rw [beq_iff_eq]; exact c2
        obtain rfl := hno (by rw [hvb]; exact decide_eq_false (by omega))
        clear hvb hno HA c2
        go_wp2_with fail
        go_ret
        exact ⟨rfl, rfl⟩
      have d2 : (C == 127) = false := by rw [beq_eq_false_iff_ne]; exact c2
      by_cases c3 : C = 92
      · have d3 : (C == 92) = true := by rw [beq_iff_eq]; exact c3
        obtain rfl := hno (by rw [hvb]; exact decide_eq_false (by omega))
        clear hvb hno HA c3
        go_wp2_with fail
        go_ret
        exact ⟨rfl, rfl⟩
      have d3 : (C == 92) = false := by rw [beq_eq_false_iff_ne]; exact c3
      have HA2 : Hid (∀ j, j < k + 1 → vbL s.data.toList j = true) := Lib.hid (fun j hj => by
        rcases Nat.lt_or_ge j k with h' | h'
        · exact HA.out j h'
        · obtain rfl : j = k := by omega
          rw [hvb]; exact decide_eq_true (by omega))
      clear hvb hno HA
      go_wp2_with fail
      go_round
      case rel => exact ⟨k + 1, by omega, by go_num, HA2⟩
      case measure => simp [intOf]; omega
end Go.Proofs.Ytdngieihlcknmaa
