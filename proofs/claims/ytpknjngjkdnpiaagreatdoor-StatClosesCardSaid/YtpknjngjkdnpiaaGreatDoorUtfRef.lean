/- The walks of the reference's span, Front, Bad. -/
import Derived.Test.YtpknjngjkdnpiaaGreatDoorUtf
namespace Go.Proofs.YtpknjngjkdnpiaaGreatDoor
set_option linter.unusedVariables false
set_option linter.unusedSimpArgs false
open Go.RowKit
theorem frGo_no (l : List UInt8) (a n f k : Nat) (hk : k < n) (ht : tailB l a k = false) : frGo l a n (f + 1) k = (k, false) := by
  rw [frGo, if_pos hk, if_neg (by rw [ht]; exact Bool.false_ne_true)]
theorem frGo_yes (l : List UInt8) (a n f k : Nat) (hk : k < n) (ht : tailB l a k = true) : frGo l a n (f + 1) k = frGo l a n f (k + 1) := by
  rw [frGo, if_pos hk, if_pos ht]
theorem frGo_end (l : List UInt8) (a n f : Nat) : frGo l a n f n = (n, true) := by
  cases f with
  | zero => rfl
  | succ f => rw [frGo, if_neg (Nat.lt_irrefl _)]
/-- What span tells. -/
def SpanE (c : Int) (e : Ending) : Prop := ∃ lo hi : Int, e = .returned (.tuple #[.int .i64 (uSize c : Nat), .int .u8 lo, .int .u8 hi]) ∧ (2 ≤ uSize c → lo = uLo c ∧ hi = uHi c)
theorem spanE_mk {c : Int} {n : Nat} {m lo hi : Int} (h : uSize c = n) (hm : m = n) (k : 2 ≤ n → lo = uLo c ∧ hi = uHi c) : SpanE c (.returned (.tuple #[.int .i64 m, .int .u8 lo, .int .u8 hi])) := by
  subst hm; subst h; exact ⟨lo, hi, rfl, k⟩
theorem lohi (c : Int) (a : c ≠ 224) (b : c ≠ 237) (d : c ≠ 240) (f : c ≠ 244) : (128 : Int) = uLo c ∧ (191 : Int) = uHi c := ⟨by simp [uLo, a, d], by simp [uHi, b, f]⟩
theorem refSpan_any (c : Int) (w : World) (h0 : 0 ≤ c) (h1 : c ≤ 255) :
    Calls Tryz.prog 157 #[.int .u8 c] w fun e w' => SpanE c e ∧ w = w' := by
  by_cases a : c = 224
  · subst a
    go_enter Tryz.func157, Tryz.ntmps157
    go_wp2_with fail
    go_ret3
    exact ⟨spanE_mk (n := 3) rfl rfl (fun _ => ⟨rfl, rfl⟩), rfl⟩
  by_cases b : c = 237
  · subst b
    go_enter Tryz.func157, Tryz.ntmps157
    go_wp2_with fail
    go_ret3
    exact ⟨spanE_mk (n := 3) rfl rfl (fun _ => ⟨rfl, rfl⟩), rfl⟩
  by_cases d : c = 240
  · subst d
    go_enter Tryz.func157, Tryz.ntmps157
    go_wp2_with fail
    go_ret3
    exact ⟨spanE_mk (n := 4) rfl rfl (fun _ => ⟨rfl, rfl⟩), rfl⟩
  by_cases f : c = 244
  · subst f
    go_enter Tryz.func157, Tryz.ntmps157
    go_wp2_with fail
    go_ret3
    exact ⟨spanE_mk (n := 4) rfl rfl (fun _ => ⟨rfl, rfl⟩), rfl⟩
  have a' : (c == 224) = false := by (rw [beq_eq_false_iff_ne]; exact a)
  have b' : (c == 237) = false := by (rw [beq_eq_false_iff_ne]; exact b)
  have d' : (c == 240) = false := by (rw [beq_eq_false_iff_ne]; exact d)
  have f' : (c == 244) = false := by (rw [beq_eq_false_iff_ne]; exact f)
  have hlh := Lib.hid (lohi c a b d f)
  clear a b d f
  by_cases g : c < 128
  · go_enter Tryz.func157, Tryz.ntmps157
    go_wp2_with fail
    go_ret3
    exact ⟨spanE_mk (n := 1) (by unfold uSize; (repeat' split) <;> omega) rfl (fun h => absurd h (by omega)), rfl⟩
  by_cases g2 : c < 194
  · have q : decide (c < 194) = true := decide_eq_true g2
    go_enter Tryz.func157, Tryz.ntmps157
    go_wp2_with fail
    go_ret3
    exact ⟨spanE_mk (n := 0) (by unfold uSize; (repeat' split) <;> omega) rfl (fun h => absurd h (by omega)), rfl⟩
  have q : decide (c < 194) = false := decide_eq_false g2
  by_cases g3 : 244 < c
  · have q2 : decide (244 < c) = true := decide_eq_true g3
    go_enter Tryz.func157, Tryz.ntmps157
    go_wp2_with fail
    go_ret3
    exact ⟨spanE_mk (n := 0) (by unfold uSize; (repeat' split) <;> omega) rfl (fun h => absurd h (by omega)), rfl⟩
  have q2 : decide (244 < c) = false := decide_eq_false g3
  by_cases g4 : c < 224
  · go_enter Tryz.func157, Tryz.ntmps157
    go_wp2_with fail
    go_ret3
    exact ⟨spanE_mk (n := 2) (by unfold uSize; (repeat' split) <;> omega) rfl (fun h => hlh.out), rfl⟩
  by_cases g5 : c < 240
  · go_enter Tryz.func157, Tryz.ntmps157
    go_wp2_with fail
    go_ret3
    exact ⟨spanE_mk (n := 3) (by unfold uSize; (repeat' split) <;> omega) rfl (fun h => hlh.out), rfl⟩
  · go_enter Tryz.func157, Tryz.ntmps157
    go_wp2_with fail
    go_ret3
    exact ⟨spanE_mk (n := 4) (by unfold uSize; (repeat' split) <;> omega) rfl (fun h => hlh.out), rfl⟩
theorem ret_front {l : List UInt8} {a : Nat} {m : Int} {n : Nat} {b : Bool} (h : frontU l a = (n, b)) (hm : m = n) : Ending.returned (.tuple #[.int .i64 m, .bool b]) = .returned (.tuple #[.int .i64 ((frontU l a).1 : Nat), .bool (frontU l a).2]) := by rw [h, hm]
set_option maxRecDepth 100000 in
set_option maxHeartbeats 1600000 in
theorem refFront_any (s : ByteArray) (a : Nat) (w : World) (ha : a < s.size) (hs : s.size ≤ 4611686018427387904) :
    Calls Tryz.prog 135 #[.string s, .int .i64 a] w fun e w' => e = .returned (.tuple #[.int .i64 ((frontU s.data.toList a).1 : Nat), .bool (frontU s.data.toList a).2]) ∧ w = w' := by
  have hc : ((s[a]).toNat : Int) = bt s.data.toList a := getElem_bt ha
  have c0 := bt_nonneg s.data.toList a
  have c1 := bt_le s.data.toList a
  have ha0 : (0 : Int) ≤ a := by omega
  have ha1 : (a : Int) < s.size := by omega
  have hn4 := uSize_le (bt s.data.toList a)
  have hsp := fun W => refSpan_any (bt s.data.toList a) W (by omega) (by omega)
  unfold SpanE at hsp
  by_cases h0 : uSize (bt s.data.toList a) = 0
  · have hf : frontU s.data.toList a = (0, false) := by unfold frontU; rw [if_pos h0]
    rw [h0] at hsp
    have HF := Lib.hid hf
    clear h0 hf
    go_enter Tryz.func135, Tryz.ntmps135
    go_wp2_with (go_at_call 157; refine (hsp _).mono ?_; rintro e w1 ⟨⟨lo, hi, rfl, _⟩, rfl⟩)
    go_ret2
    exact ⟨ret_front HF.out rfl, rfl⟩
  · have HF : Hid (frGo s.data.toList a (uSize (bt s.data.toList a)) 4 1 = frontU s.data.toList a) := Lib.hid (by unfold frontU; rw [if_neg h0])
    obtain ⟨n, hn⟩ : ∃ n, uSize (bt s.data.toList a) = n := ⟨_, rfl⟩
    rw [hn] at hn4 h0 HF hsp
    clear hn
    have hz : ((n : Int) == 0) = false := by (rw [beq_eq_false_iff_ne]; omega)
    have hn0 : (0 : Int) ≤ n := by omega
    have hn5 : (n : Int) < 5 := by omega
    go_enter Tryz.func135, Tryz.ntmps135
    go_wp2_with (go_at_call 157; refine (hsp _).mono ?_; rintro e w1 ⟨⟨lo, hi, rfl, hlh⟩, rfl⟩)
    go_loop [7, 8, 9] (fun vlo vhi i => ∃ (k f : Nat) (lo hi : Int), 1 ≤ k ∧ k ≤ n ∧ a + k ≤ s.size ∧ vlo = .int .u8 lo ∧ vhi = .int .u8 hi ∧ (k < n → lo = kLo (bt s.data.toList a) k ∧ hi = kHi (bt s.data.toList a) k) ∧ i = .int .i64 k ∧ n ≤ f + k ∧ Hid (frGo s.data.toList a n f k = frontU s.data.toList a)) (fun _ _ i => n - (intOf i).toNat)
    case atStart => exact ⟨1, 4, lo, hi, by omega, by omega, by omega, rfl, rfl, fun h => hlh (by omega), rfl, by omega, HF⟩
    case round =>
      obtain ⟨k, f, lo, hi, hk1, hkn, hak, rfl, rfl, hlh2, rfl, hf, HG⟩ := hrel
      clear HF hlh
      have hk0 : (0 : Int) ≤ k := by omega
      by_cases hlt : k < n
      · have hdk : decide ((k : Int) < n) = true := decide_eq_true (by omega)
        obtain ⟨f, rfl⟩ : ∃ f', f = f' + 1 := ⟨f - 1, by omega⟩
        obtain ⟨rfl, rfl⟩ := hlh2 hlt
        clear hlh2
        by_cases hin : a + k < s.size
        · have hd1 : decide ((a : Int) + k < s.size) = true := decide_eq_true (by omega)
          have hck : ((s[a + k]).toNat : Int) = bt s.data.toList (a + k) := getElem_bt hin
          have q0 := bt_nonneg s.data.toList (a + k)
          have q1 := bt_le s.data.toList (a + k)
          have hi0 : (0 : Int) ≤ (a : Int) + k := by omega
          have hi1 : (a : Int) + k < s.size := by omega
          have htb : tailB s.data.toList a k = (decide (kLo (bt s.data.toList a) k ≤ bt s.data.toList (a + k)) && decide (bt s.data.toList (a + k) ≤ kHi (bt s.data.toList a) k)) := by
            unfold tailB
            rw [decide_eq_true (show a + k < s.data.toList.length by simpa using hin), Bool.true_and]
          by_cases hlo : bt s.data.toList (a + k) < kLo (bt s.data.toList a) k
          · have HF := Lib.hid (HG.out.symm.trans (frGo_no _ a n f k hlt (by rw [htb, decide_eq_false (by omega)]; rfl)))
            clear htb HG
            have hd2 : decide (bt s.data.toList (a + k) < kLo (bt s.data.toList a) k) = true := decide_eq_true hlo
            go_wp2_with fail
            go_ret2
            exact ⟨ret_front HF.out rfl, rfl⟩
          · have hd2 : decide (bt s.data.toList (a + k) < kLo (bt s.data.toList a) k) = false := decide_eq_false hlo
            by_cases hhi : kHi (bt s.data.toList a) k < bt s.data.toList (a + k)
            · have HF := Lib.hid (HG.out.symm.trans (frGo_no _ a n f k hlt (by rw [htb, decide_eq_false (show ¬ bt s.data.toList (a + k) ≤ _ by omega), Bool.and_false])))
              clear htb HG
              have hd3 : decide (kHi (bt s.data.toList a) k < bt s.data.toList (a + k)) = true := decide_eq_true hhi
              go_wp2_with fail
              go_ret2
              exact ⟨ret_front HF.out rfl, rfl⟩
            · have HF := Lib.hid ((frGo_yes _ a n f k hlt (by rw [htb, decide_eq_true (by omega), decide_eq_true (by omega)]; rfl)).symm.trans HG.out)
              clear htb HG
              have hd3 : decide (kHi (bt s.data.toList a) k < bt s.data.toList (a + k)) = false := decide_eq_false hhi
              have e1 : kLo (bt s.data.toList a) (k + 1) = 128 := by unfold kLo; rw [if_neg (by omega)]
              have e2 : kHi (bt s.data.toList a) (k + 1) = 191 := by unfold kHi; rw [if_neg (by omega)]
              have E12 := Lib.hid (And.intro e1 e2)
              clear e1 e2
              go_wp2_with fail
              exact ⟨⟨k + 1, f, 128, 191, by omega, by omega, by omega, rfl, rfl, fun _ => ⟨E12.out.1.symm, E12.out.2.symm⟩, rfl, by omega, HF⟩, by (simp only [intOf]; omega)⟩
        · have hd1 : decide ((a : Int) + k < s.size) = false := decide_eq_false (by omega)
          have HF := Lib.hid (HG.out.symm.trans (frGo_no _ a n f k hlt (by unfold tailB; rw [decide_eq_false (show ¬ a + k < s.data.toList.length by simpa using hin)]; rfl)))
          have hkn2 : ((k : Int) == n) = false := by (rw [beq_eq_false_iff_ne]; omega)
          clear HG
          go_wp2_with fail
          go_ret2
          exact ⟨ret_front HF.out rfl, rfl⟩
      · have hdk : decide ((k : Int) < n) = false := decide_eq_false (by omega)
        obtain rfl : k = n := by omega
        have HF := Lib.hid (HG.out.symm.trans (frGo_end s.data.toList a k f))
        clear HG hlh2
        go_wp2_with fail
        go_ret2
        exact ⟨by first | exact ret_front HF.out rfl | (simp; exact ret_front HF.out rfl), rfl⟩
end Go.Proofs.YtpknjngjkdnpiaaGreatDoor
