/- The walks of package utf. -/
import Derived.Test.YtdngieihlcknmaaDoorProg
import Derived.Test.YtdngieihlcknmaaDoorAux2
import Derived.Test.YtdngieihlcknmaaDoorMem
import Derived.Test.YtdngieihlcknmaaDoorOwn
import Derived.Test.YtdngieihlcknmaaDoorUtfDef
import Derived.Deep.QuietTactic
import Derived.BigQuiet
namespace Go.Proofs.YtdngieihlcknmaaDoor
set_option linter.unusedVariables false
set_option linter.unusedSimpArgs false
open Go.RowKit
theorem usize_any (c : Int) (w : World) (h0 : 0 ≤ c) (h1 : c ≤ 255) :
    Calls Tryd.prog 98 #[.int .u8 c] w fun e w' => e = .returned (.int .i64 (uSize c : Nat)) ∧ w = w' := by
  by_cases a : c < 128
  · go_enter Tryd.func98, Tryd.ntmps98
    go_wp2_with fail
    go_ret
    exact ⟨ret_int (by rw [show uSize c = 1 from by unfold uSize; (repeat' split) <;> omega]; rfl), rfl⟩
  by_cases b : c < 194
  · go_enter Tryd.func98, Tryd.ntmps98
    go_wp2_with fail
    go_ret
    exact ⟨ret_int (by rw [show uSize c = 0 from by unfold uSize; (repeat' split) <;> omega]; rfl), rfl⟩
  by_cases d : c < 224
  · go_enter Tryd.func98, Tryd.ntmps98
    go_wp2_with fail
    go_ret
    exact ⟨ret_int (by rw [show uSize c = 2 from by unfold uSize; (repeat' split) <;> omega]; rfl), rfl⟩
  by_cases f : c < 240
  · go_enter Tryd.func98, Tryd.ntmps98
    go_wp2_with fail
    go_ret
    exact ⟨ret_int (by rw [show uSize c = 3 from by unfold uSize; (repeat' split) <;> omega]; rfl), rfl⟩
  by_cases g : c < 245
  · go_enter Tryd.func98, Tryd.ntmps98
    go_wp2_with fail
    go_ret
    exact ⟨ret_int (by rw [show uSize c = 4 from by unfold uSize; (repeat' split) <;> omega]; rfl), rfl⟩
  · go_enter Tryd.func98, Tryd.ntmps98
    go_wp2_with fail
    go_ret
    exact ⟨ret_int (by rw [show uSize c = 0 from by unfold uSize; (repeat' split) <;> omega]; rfl), rfl⟩
theorem ret_u8_2 {a b c d : Int} (h : a = c) (k : b = d) : Ending.returned (.tuple #[.int .u8 a, .int .u8 b]) = .returned (.tuple #[.int .u8 c, .int .u8 d]) := by rw [h, k]
theorem usecond_any (c : Int) (w : World) (h0 : 0 ≤ c) (h1 : c ≤ 255) :
    Calls Tryd.prog 99 #[.int .u8 c] w fun e w' => e = .returned (.tuple #[.int .u8 (uLo c), .int .u8 (uHi c)]) ∧ w = w' := by
  by_cases a : c = 224
  · subst a
    go_enter Tryd.func99, Tryd.ntmps99
    go_wp2_with fail
    go_ret2
    exact ⟨rfl, rfl⟩
  by_cases b : c = 237
  · subst b
    go_enter Tryd.func99, Tryd.ntmps99
    go_wp2_with fail
    go_ret2
    exact ⟨rfl, rfl⟩
  by_cases d : c = 240
  · subst d
    go_enter Tryd.func99, Tryd.ntmps99
    go_wp2_with fail
    go_ret2
    exact ⟨rfl, rfl⟩
  by_cases f : c = 244
  · subst f
    go_enter Tryd.func99, Tryd.ntmps99
    go_wp2_with fail
    go_ret2
    exact ⟨rfl, rfl⟩
  · have a' : (c == 224) = false := by (rw [beq_eq_false_iff_ne]; exact a)
    have b' : (c == 237) = false := by (rw [beq_eq_false_iff_ne]; exact b)
    have d' : (c == 240) = false := by (rw [beq_eq_false_iff_ne]; exact d)
    have f' : (c == 244) = false := by (rw [beq_eq_false_iff_ne]; exact f)
    go_enter Tryd.func99, Tryd.ntmps99
    go_wp2_with fail
    go_ret2
    exact ⟨ret_u8_2 (by simp [uLo, a, d]) (by simp [uHi, b, f]), rfl⟩
/-- What front tells: the scalar is left open. -/
def FrontE (l : List UInt8) (a : Nat) (e : Ending) : Prop := ∃ r : Int, e = .returned (.tuple #[.int .i32 r, .int .i64 ((frontU l a).1 : Nat), .bool (frontU l a).2])
theorem frontE_mk {l : List UInt8} {a : Nat} {r : Int} {n : Nat} {b : Bool} (h : frontU l a = (n, b)) : FrontE l a (.returned (.tuple #[.int .i32 r, .int .i64 (n : Int), .bool b])) := ⟨r, by rw [h]⟩
theorem frGo_no (l : List UInt8) (a n f k : Nat) (hk : k < n) (ht : tailB l a k = false) : frGo l a n (f + 1) k = (k, false) := by
  rw [frGo, if_pos hk, if_neg (by rw [ht]; exact Bool.false_ne_true)]
theorem frGo_yes (l : List UInt8) (a n f k : Nat) (hk : k < n) (ht : tailB l a k = true) : frGo l a n (f + 1) k = frGo l a n f (k + 1) := by
  rw [frGo, if_pos hk, if_pos ht]
theorem frGo_end (l : List UInt8) (a n f : Nat) : frGo l a n f n = (n, true) := by
  cases f with
  | zero => rfl
  | succ f => rw [frGo, if_neg (Nat.lt_irrefl _)]
set_option maxRecDepth 100000 in
set_option maxHeartbeats 1600000 in
theorem ufront_any (s : ByteArray) (a : Nat) (w : World) (ha : a < s.size) (hs : s.size ≤ 4611686018427387904) :
    Calls Tryd.prog 96 #[.string s, .int .i64 a] w fun e w' => FrontE s.data.toList a e ∧ Below w.heap.size w w' := by
  have hc : ((s[a]).toNat : Int) = bt s.data.toList a := getElem_bt ha
  have c0 := bt_nonneg s.data.toList a
  have c1 := bt_le s.data.toList a
  have ha0 : (0 : Int) ≤ a := by omega
  have ha1 : (a : Int) < s.size := by omega
  have hn4 := uSize_le (bt s.data.toList a)
  by_cases h0 : uSize (bt s.data.toList a) = 0
  · have hf : frontU s.data.toList a = (0, false) := by unfold frontU; rw [if_pos h0]
    have hz : ((uSize (bt s.data.toList a) : Int) == 0) = true := by (rw [beq_iff_eq]; omega)
    have HF := Lib.hid hf
    clear h0 hf
    go_enter Tryd.func96, Tryd.ntmps96
    go_wp2_with (go_at_call 98; refine (usize_any _ _ (by omega) (by omega)).mono ?_; rintro e w1 ⟨rfl, rfl⟩)
    go_ret3
    exact ⟨frontE_mk HF.out, Below.refl _ _⟩
  · have HF : Hid (frGo s.data.toList a (uSize (bt s.data.toList a)) 4 1 = frontU s.data.toList a) := Lib.hid (by unfold frontU; rw [if_neg h0])
    obtain ⟨n, hn⟩ : ∃ n, uSize (bt s.data.toList a) = n := ⟨_, rfl⟩
    rw [hn] at hn4 h0 HF
    have hz : ((n : Int) == 0) = false := by (rw [beq_eq_false_iff_ne]; omega)
    have hn0 : (0 : Int) ≤ n := by omega
    have hn5 : (n : Int) < 5 := by omega
    go_enter Tryd.func96, Tryd.ntmps96
    go_wp2_with (go_at_call 98; refine (usize_any _ _ (by omega) (by omega)).mono ?_; rintro e w1 ⟨rfl, rfl⟩)
    have hB := Blk.new w 125 #[.int .u8 0, .int .u8 127, .int .u8 31, .int .u8 15, .int .u8 7]
    have hbX : Below w.heap.size w (w.alloc (.cells #[.int .u8 0, .int .u8 127, .int .u8 31, .int .u8 15, .int .u8 7] 125)) := (Below.refl _ _).alloc (Nat.le_refl _) _
    obtain ⟨m, hm⟩ : ∃ m : Int, (w.alloc (.cells #[.int .u8 0, .int .u8 127, .int .u8 31, .int .u8 15, .int .u8 7] 125)).cell? ⟨w.heap.size, n, none⟩ = some (.int .u8 m) := by
      rw [hB.cell n]
      match n, hn5 with
      | 0, _ => exact ⟨_, rfl⟩
      | 1, _ => exact ⟨_, rfl⟩
      | 2, _ => exact ⟨_, rfl⟩
      | 3, _ => exact ⟨_, rfl⟩
      | 4, _ => exact ⟨_, rfl⟩
      | k + 5, h => exact absurd h (by omega)
    clear hB
    generalize w.alloc (.cells #[.int .u8 0, .int .u8 127, .int .u8 31, .int .u8 15, .int .u8 7] 125) = wX at hm hbX ⊢
    go_quiet (fail)
    go_wp2_with (go_at_call 99; refine (usecond_any _ _ (by omega) (by omega)).mono ?_; rintro e w1 ⟨rfl, rfl⟩)
    have hbY := bl_drewN hbX nq
    generalize wX.drewN nq = wY at hbY ⊢
    clear hm hbX hn
    go_loop [9, 10, 11, 12] (fun r lo hi i => ∃ (rr : Int) (k f : Nat), 1 ≤ k ∧ k ≤ n ∧ a + k ≤ s.size ∧ r = .int .i32 rr ∧ lo = .int .u8 (kLo (bt s.data.toList a) k) ∧ hi = .int .u8 (kHi (bt s.data.toList a) k) ∧ i = .int .i64 k ∧ n ≤ f + k ∧ Hid (frGo s.data.toList a n f k = frontU s.data.toList a)) (fun _ _ _ i => n - (intOf i).toNat)
    case atStart => exact ⟨_, 1, 4, by omega, by omega, by omega, rfl, rfl, rfl, rfl, by omega, HF⟩
    case round =>
      obtain ⟨rr, k, f, hk1, hkn, hak, rfl, rfl, rfl, rfl, hf, HG⟩ := hrel
      clear HF
      have hk0 : (0 : Int) ≤ k := by omega
      by_cases hlt : k < n
      · have hdk : decide ((k : Int) < n) = true := decide_eq_true (by omega)
        obtain ⟨f, rfl⟩ : ∃ f', f = f' + 1 := ⟨f - 1, by omega⟩
        by_cases hin : a + k < s.size
        · have hd1 : decide ((s.size : Int) - a ≤ k) = false := decide_eq_false (by omega)
          have hck : ((s[a + k]).toNat : Int) = bt s.data.toList (a + k) := getElem_bt hin
          have q0 := bt_nonneg s.data.toList (a + k)
          have q1 := bt_le s.data.toList (a + k)
          have hi0 : (0 : Int) ≤ (a : Int) + k := by omega
          have hi1 : (a : Int) + k < s.size := by omega
          have htb : tailB s.data.toList a k = (decide (kLo (bt s.data.toList a) k ≤ bt s.data.toList (a + k)) && decide (bt s.data.toList (a + k) ≤ kHi (bt s.data.toList a) k)) := by
            unfold tailB
            rw [decide_eq_true (show a + k < s.data.toList.length by simpa using hin), Bool.true_and]
          by_cases hlo : bt s.data.toList (a + k) < kLo (bt s.data.toList a) k
          · have HF := Lib.hid (HG.out.symm.trans (frGo_no _ a n f k hlt (by rw [htb, decide_eq_false (by omega)]; rfl)))
            clear htb HG
            have hd2 : decide (bt s.data.toList (a + k) < kLo (bt s.data.toList a) k) = true := decide_eq_true hlo
            go_wp2_with fail
            go_ret3
            exact ⟨frontE_mk HF.out, hbY⟩
          · have hd2 : decide (bt s.data.toList (a + k) < kLo (bt s.data.toList a) k) = false := decide_eq_false hlo
            by_cases hhi : kHi (bt s.data.toList a) k < bt s.data.toList (a + k)
            · have HF := Lib.hid (HG.out.symm.trans (frGo_no _ a n f k hlt (by rw [htb, decide_eq_false (show ¬ bt s.data.toList (a + k) ≤ _ by omega), Bool.and_false])))
              clear htb HG
              have hd3 : decide (kHi (bt s.data.toList a) k < bt s.data.toList (a + k)) = true := decide_eq_true hhi
              go_wp2_with fail
              go_ret3
              exact ⟨frontE_mk HF.out, hbY⟩
            · have HF := Lib.hid ((frGo_yes _ a n f k hlt (by rw [htb, decide_eq_true (by omega), decide_eq_true (by omega)]; rfl)).symm.trans HG.out)
              clear htb HG
              have hd3 : decide (kHi (bt s.data.toList a) k < bt s.data.toList (a + k)) = false := decide_eq_false hhi
              have e1 : kLo (bt s.data.toList a) (k + 1) = 128 := by unfold kLo; rw [if_neg (by omega)]
              have e2 : kHi (bt s.data.toList a) (k + 1) = 191 := by unfold kHi; rw [if_neg (by omega)]
              go_wp2_with fail
              exact ⟨⟨_, k + 1, f, by omega, by omega, by omega, rfl, by rw [e1], by rw [e2], rfl, by omega, HF⟩, by (simp only [intOf]; omega)⟩
        · have hd1 : decide ((s.size : Int) - a ≤ k) = true := decide_eq_true (by omega)
          have HF := Lib.hid (HG.out.symm.trans (frGo_no _ a n f k hlt (by unfold tailB; rw [decide_eq_false (show ¬ a + k < s.data.toList.length by simpa using hin)]; rfl)))
          clear HG
          go_wp2_with fail
          go_ret3
          exact ⟨frontE_mk HF.out, hbY⟩
      · have hdk : decide ((k : Int) < n) = false := decide_eq_false (by omega)
        obtain rfl : k = n := by omega
        have HF := Lib.hid (HG.out.symm.trans (frGo_end s.data.toList a k f))
        clear HG
        go_wp2_with fail
        go_ret3
        exact ⟨frontE_mk HF.out, hbY⟩
theorem badGo_no {l : List UInt8} {f a : Nat} (h : a < l.length) (k : (frontU l a).2 = false) : badGo l (f + 1) a = (a : Int) + (frontU l a).1 := by
  rw [badGo, if_pos h, if_neg (by rw [k]; exact Bool.false_ne_true)]
theorem badGo_yes {l : List UInt8} {f a : Nat} (h : a < l.length) (k : (frontU l a).2 = true) : badGo l (f + 1) a = badGo l f (a + (frontU l a).1) := by
  rw [badGo, if_pos h, if_pos k]
theorem badGo_end {l : List UInt8} {f a : Nat} (h : l.length ≤ a) : badGo l f a = -1 := by
  cases f with
  | zero => rfl
  | succ f => rw [badGo, if_neg (by omega)]
/-- What walk tells: the count is left open. -/
def WalkE (l : List UInt8) (e : Ending) : Prop := ∃ c : Int, e = .returned (.tuple #[.int .i64 c, .int .i64 (badU l)])
theorem walkE_mk {l : List UInt8} {c b : Int} (h : badU l = b) : WalkE l (.returned (.tuple #[.int .i64 c, .int .i64 b])) := ⟨c, by rw [h]⟩
set_option maxRecDepth 100000 in
set_option maxHeartbeats 1600000 in
theorem uwalk_any (s : ByteArray) (w : World) (hs : s.size ≤ 4611686018427387904) :
    Calls Tryd.prog 97 #[.string s] w fun e w' => WalkE s.data.toList e ∧ Below w.heap.size w w' := by
  have hsl : s.data.toList.length = s.size := by simp
  go_enter Tryd.func97, Tryd.ntmps97
  go_wp2_with fail
  go_loopw [4, 5] (fun cnt i wr => Below w.heap.size w wr ∧ ∃ (c : Int) (a f : Nat), a ≤ s.size ∧ cnt = .int .i64 c ∧ i = .int .i64 a ∧ s.size ≤ f + a ∧ Hid (badU s.data.toList = badGo s.data.toList f a)) (fun _ i _ => s.size - (intOf i).toNat)
  case atStart => exact ⟨Below.refl _ _, 0, 0, s.size, by omega, rfl, rfl, by omega, Lib.hid (by unfold badU; rw [hsl])⟩
  case round =>
    obtain ⟨hbw, c, a, f, ha, rfl, rfl, hf, HG⟩ := hrel
    by_cases hlt : a < s.size
    · have hdk : decide ((a : Int) < s.size) = true := decide_eq_true (by omega)
      obtain ⟨f, rfl⟩ : ∃ f', f = f' + 1 := ⟨f - 1, by omega⟩
      have hfl := front_le s.data.toList a (by omega)
      have hfa := fun W => ufront_any s a W hlt hs
      unfold FrontE at hfa
      obtain ⟨n, hn⟩ : ∃ n, (frontU s.data.toList a).1 = n := ⟨_, rfl⟩
      cases hk : (frontU s.data.toList a).2
      · have HF := Lib.hid (HG.out.trans (badGo_no (f := f) (by omega) hk))
        rw [hn] at hfl HF
        rw [hk] at hfl
        simp only [hn, hk] at hfa
        clear HG hk hn hsl
        go_wp2_with (go_at_call 96; refine (hfa _).mono ?_; rintro e w1 ⟨⟨r, rfl⟩, hb1⟩)
        go_ret2
        exact ⟨walkE_mk HF.out, bl_any hbw hb1⟩
      · have HF := Lib.hid (HG.out.trans (badGo_yes (f := f) (by omega) hk))
        rw [hn] at hfl HF
        rw [hk] at hfl
        have hn1 := hfl.2.2 rfl
        simp only [hn, hk] at hfa
        clear HG hk hn
        go_wp2_with (go_at_call 96; refine (hfa _).mono ?_; rintro e w1 ⟨⟨r, rfl⟩, hb1⟩)
        exact ⟨⟨bl_any hbw hb1, _, a + n, f, by omega, rfl, rfl, by omega, HF⟩, by (simp only [intOf]; omega)⟩
    · have hdk : decide ((a : Int) < s.size) = false := decide_eq_false (by omega)
      have HF := Lib.hid (HG.out.trans (badGo_end (by omega)))
      clear HG
      go_wp2_with fail
      go_ret2
      exact ⟨walkE_mk HF.out, hbw⟩
theorem ubad_any (s : ByteArray) (w : World) (hs : s.size ≤ 4611686018427387904) :
    Calls Tryd.prog 93 #[.string s] w fun e w' => e = .returned (.int .i64 (badU s.data.toList)) ∧ Below w.heap.size w w' := by
  have h := fun W => uwalk_any s W hs
  unfold WalkE at h
  go_enter Tryd.func93, Tryd.ntmps93
  go_wp2_with (go_at_call 97; refine (h _).mono ?_; rintro e w1 ⟨⟨r, rfl⟩, hb1⟩)
  go_ret
  exact ⟨rfl, hb1⟩
end Go.Proofs.YtdngieihlcknmaaDoor
