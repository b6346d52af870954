/- The walks of the reference's span, Front, Bad. The walks of the reference's scanner: its small methods. The walks of the reference's scanner: words, digits, numbers. The walks of the reference's scanner: whole numbers; a row of bytes of the call's own beside the scanner. The walk of the reference's Run for any class of bytes but some. The reference's scanner: a decimal; a row under way. The walk of the dotted format's reference: a line. The walk of the dotted format's reference: a line. The walk of the dotted format's reference: the rows. The walk of polyglothelp.SameRows, over rows that are the same. The walk of DotsTells. The walk of DotsFar. The walk of polyglothelp.Close for the dotted format. The walk of DotsCloses. -/
import Derived.Test.YtoplengednoldaaGreatDoorUtf
import Derived.Test.YtoplengednoldaaGreatDoorScanE
import Derived.Test.YtoplengednoldaaGreatDoorQuiet2
import Derived.Deep.QuietTactic
import Derived.BigQuiet
import Derived.Test.YtoplengednoldaaGreatDoorMgPl8
import Derived.Test.YtoplengednoldaaGreatDoorScanF
import Derived.Deep.AppendLies
import Derived.Deep.RegionHeld3
import Derived.Deep.RegionLaw
import Derived.Deep.CutRange
import Derived.Lib.AppendStr
import Derived.OwnWalk
import Derived.Test.YtoplengednoldaaGreatDoorRowsK
import Derived.Deep.CutBlock
import Derived.RegionTactic
import Derived.Deep.DrawnRows
import Derived.BigRegion
import Derived.Test.YtoplengednoldaaGreatDoorMgRd8
import Derived.Test.YtoplengednoldaaGreatDoorOpenStr
namespace Go.Proofs.YtoplengednoldaaGreatDoor
set_option linter.unusedVariables false
set_option linter.unusedSimpArgs false
open Go.RowKit
section
theorem frGo_no (l : List UInt8) (a n f k : Nat) (hk : k < n) (ht : tailB l a k = false) : frGo l a n (f + 1) k = (k, false) := by
  rw [frGo, if_pos hk, if_neg (by rw [ht]; exact Bool.false_ne_true)]
theorem frGo_yes (l : List UInt8) (a n f k : Nat) (hk : k < n) (ht : tailB l a k = true) : frGo l a n (f + 1) k = frGo l a n f (k + 1) := by
  rw [frGo, if_pos hk, if_pos ht]
theorem frGo_end (l : List UInt8) (a n f : Nat) : frGo l a n f n = (n, true) := by
  cases f with
  | zero => rfl
  | succ f => rw [frGo, if_neg (Nat.lt_irrefl _)]
/-- What span tells. -/
def SpanE (c : Int) (e : Ending) : Prop := ∃ lo hi : Int, e = .returned (.tuple #[.int .i64 (uSize c : Nat), .int .u8 lo, .int .u8 hi]) ∧ (2 ≤ uSize c → lo = uLo c ∧ hi = uHi c)
theorem spanE_mk {c : Int} {n : Nat} {m lo hi : Int} (h : uSize c = n) (hm : m = n) (k : 2 ≤ n → lo = uLo c ∧ hi = uHi c) : SpanE c (.returned (.tuple #[.int .i64 m, .int .u8 lo, .int .u8 hi])) := by
  subst hm; subst h; exact ⟨lo, hi, rfl, k⟩
theorem lohi (c : Int) (a : c ≠ 224) (b : c ≠ 237) (d : c ≠ 240) (f : c ≠ 244) : (128 : Int) = uLo c ∧ (191 : Int) = uHi c := ⟨by simp [uLo, a, d], by simp [uHi, b, f]⟩
theorem refSpan_any (c : Int) (w : World) (h0 : 0 ≤ c) (h1 : c ≤ 255) :
    Calls Tryz.prog 227 #[.int .u8 c] w fun e w' => SpanE c e ∧ w = w' := by
  by_cases a : c = 224
  · subst a
    go_enter Tryz.func227, Tryz.ntmps227
    go_wp2_with fail
    go_ret3
    exact ⟨spanE_mk (n := 3) rfl rfl (fun _ => ⟨rfl, rfl⟩), rfl⟩
  by_cases b : c = 237
  · subst b
    go_enter Tryz.func227, Tryz.ntmps227
    go_wp2_with fail
    go_ret3
    exact ⟨spanE_mk (n := 3) rfl rfl (fun _ => ⟨rfl, rfl⟩), rfl⟩
  by_cases d : c = 240
  · subst d
    go_enter Tryz.func227, Tryz.ntmps227
    go_wp2_with fail
    go_ret3
    exact ⟨spanE_mk (n := 4) rfl rfl (fun _ => ⟨rfl, rfl⟩), rfl⟩
  by_cases f : c = 244
  · subst f
    go_enter Tryz.func227, Tryz.ntmps227
    go_wp2_with fail
    go_ret3
    exact ⟨spanE_mk (n := 4) rfl rfl (fun _ => ⟨rfl, rfl⟩), rfl⟩
  have a' : (c == 224) = false := by (rw [beq_eq_false_iff_ne]; exact a)
  have b' : (c == 237) = false := by (rw [beq_eq_false_iff_ne]; exact b)
  have d' : (c == 240) = false := by (rw [beq_eq_false_iff_ne]; exact d)
  have f' : (c == 244) = false := by (rw [beq_eq_false_iff_ne]; exact f)
  have hlh := Lib.hid (lohi c a b d f)
  clear a b d f
  by_cases g : c < 128
  · go_enter Tryz.func227, Tryz.ntmps227
    go_wp2_with fail
    go_ret3
    exact ⟨spanE_mk (n := 1) (by unfold uSize; (repeat' split) <;> omega) rfl (fun h => absurd h (by omega)), rfl⟩
  by_cases g2 : c < 194
  · have q : decide (c < 194) = true := decide_eq_true g2
    go_enter Tryz.func227, Tryz.ntmps227
    go_wp2_with fail
    go_ret3
    exact ⟨spanE_mk (n := 0) (by unfold uSize; (repeat' split) <;> omega) rfl (fun h => absurd h (by omega)), rfl⟩
  have q : decide (c < 194) = false := decide_eq_false g2
  by_cases g3 : 244 < c
  · have q2 : decide (244 < c) = true := decide_eq_true g3
    go_enter Tryz.func227, Tryz.ntmps227
    go_wp2_with fail
    go_ret3
    exact ⟨spanE_mk (n := 0) (by unfold uSize; (repeat' split) <;> omega) rfl (fun h => absurd h (by omega)), rfl⟩
  have q2 : decide (244 < c) = false := decide_eq_false g3
  by_cases g4 : c < 224
  · go_enter Tryz.func227, Tryz.ntmps227
    go_wp2_with fail
    go_ret3
    exact ⟨spanE_mk (n := 2) (by unfold uSize; (repeat' split) <;> omega) rfl (fun h => hlh.out), rfl⟩
  by_cases g5 : c < 240
  · go_enter Tryz.func227, Tryz.ntmps227
    go_wp2_with fail
    go_ret3
    exact ⟨spanE_mk (n := 3) (by unfold uSize; (repeat' split) <;> omega) rfl (fun h => hlh.out), rfl⟩
  · go_enter Tryz.func227, Tryz.ntmps227
    go_wp2_with fail
    go_ret3
    exact ⟨spanE_mk (n := 4) (by unfold uSize; (repeat' split) <;> omega) rfl (fun h => hlh.out), rfl⟩
theorem ret_front {l : List UInt8} {a : Nat} {m : Int} {n : Nat} {b : Bool} (h : frontU l a = (n, b)) (hm : m = n) : Ending.returned (.tuple #[.int .i64 m, .bool b]) = .returned (.tuple #[.int .i64 ((frontU l a).1 : Nat), .bool (frontU l a).2]) := by rw [h, hm]
set_option maxRecDepth 100000 in
set_option maxHeartbeats 1600000 in
theorem refFront_any (s : ByteArray) (a : Nat) (w : World) (ha : a < s.size) (hs : s.size ≤ 4611686018427387904) :
    Calls Tryz.prog 190 #[.string s, .int .i64 a] w fun e w' => e = .returned (.tuple #[.int .i64 ((frontU s.data.toList a).1 : Nat), .bool (frontU s.data.toList a).2]) ∧ w = w' := by
  have hc : ((s[a]).toNat : Int) = bt s.data.toList a := getElem_bt ha
  have c0 := bt_nonneg s.data.toList a
  have c1 := bt_le s.data.toList a
  have ha0 : (0 : Int) ≤ a := by omega
  have ha1 : (a : Int) < s.size := by omega
  have hn4 := uSize_le (bt s.data.toList a)
  have hsp := fun W => refSpan_any (bt s.data.toList a) W (by omega) (by omega)
  unfold SpanE at hsp
  by_cases h0 : uSize (bt s.data.toList a) = 0
  · have hf : frontU s.data.toList a = (0, false) := by unfold frontU; rw [if_pos h0]
    rw [h0] at hsp
    have HF := Lib.hid hf
    clear h0 hf
    go_enter Tryz.func190, Tryz.ntmps190
    go_wp2_with (go_at_call 227; refine (hsp _).mono ?_; rintro e w1 ⟨⟨lo, hi, rfl, _⟩, rfl⟩)
    go_ret2
    exact ⟨ret_front HF.out rfl, rfl⟩
  · have HF : Hid (frGo s.data.toList a (uSize (bt s.data.toList a)) 4 1 = frontU s.data.toList a) := Lib.hid (by unfold frontU; rw [if_neg h0])
    obtain ⟨n, hn⟩ : ∃ n, uSize (bt s.data.toList a) = n := ⟨_, rfl⟩
    rw [hn] at hn4 h0 HF hsp
    clear hn
    have hz : ((n : Int) == 0) = false := by (rw [beq_eq_false_iff_ne]; omega)
    have hn0 : (0 : Int) ≤ n := by omega
    have hn5 : (n : Int) < 5 := by omega
    go_enter Tryz.func190, Tryz.ntmps190
    go_wp2_with (go_at_call 227; refine (hsp _).mono ?_; rintro e w1 ⟨⟨lo, hi, rfl, hlh⟩, rfl⟩)
    go_loop [7, 8, 9] (fun vlo vhi i => ∃ (k f : Nat) (lo hi : Int), 1 ≤ k ∧ k ≤ n ∧ a + k ≤ s.size ∧ vlo = .int .u8 lo ∧ vhi = .int .u8 hi ∧ (k < n → lo = kLo (bt s.data.toList a) k ∧ hi = kHi (bt s.data.toList a) k) ∧ i = .int .i64 k ∧ n ≤ f + k ∧ Hid (frGo s.data.toList a n f k = frontU s.data.toList a)) (fun _ _ i => n - (intOf i).toNat)
    case atStart => exact ⟨1, 4, lo, hi, by omega, by omega, by omega, rfl, rfl, fun h => hlh (by omega), rfl, by omega, HF⟩
    case round =>
      obtain ⟨k, f, lo, hi, hk1, hkn, hak, rfl, rfl, hlh2, rfl, hf, HG⟩ := hrel
      clear HF hlh
      have hk0 : (0 : Int) ≤ k := by omega
      by_cases hlt : k < n
      · have hdk : decide ((k : Int) < n) = true := decide_eq_true (by omega)
        obtain ⟨f, rfl⟩ : ∃ f', f = f' + 1 := ⟨f - 1, by omega⟩
        obtain ⟨rfl, rfl⟩ := hlh2 hlt
        clear hlh2
        by_cases hin : a + k < s.size
        · have hd1 : decide ((a : Int) + k < s.size) = true := decide_eq_true (by omega)
          have hck : ((s[a + k]).toNat : Int) = bt s.data.toList (a + k) := getElem_bt hin
          have q0 := bt_nonneg s.data.toList (a + k)
          have q1 := bt_le s.data.toList (a + k)
          have hi0 : (0 : Int) ≤ (a : Int) + k := by omega
          have hi1 : (a : Int) + k < s.size := by omega
          have htb : tailB s.data.toList a k = (decide (kLo (bt s.data.toList a) k ≤ bt s.data.toList (a + k)) && decide (bt s.data.toList (a + k) ≤ kHi (bt s.data.toList a) k)) := by
            unfold tailB
            rw [decide_eq_true (show a + k < s.data.toList.length by simpa using hin), Bool.true_and]
          by_cases hlo : bt s.data.toList (a + k) < kLo (bt s.data.toList a) k
          · have HF := Lib.hid (HG.out.symm.trans (frGo_no _ a n f k hlt (by rw [htb, decide_eq_false (by omega)]; rfl)))
            clear htb HG
            have hd2 : decide (bt s.data.toList (a + k) < kLo (bt s.data.toList a) k) = true := decide_eq_true hlo
            go_wp2_with fail
            go_ret2
            exact ⟨ret_front HF.out rfl, rfl⟩
          · have hd2 : decide (bt s.data.toList (a + k) < kLo (bt s.data.toList a) k) = false := decide_eq_false hlo
            by_cases hhi : kHi (bt s.data.toList a) k < bt s.data.toList (a + k)
            · have HF := Lib.hid (HG.out.symm.trans (frGo_no _ a n f k hlt (by rw [htb, decide_eq_false (show ¬ bt s.data.toList (a + k) ≤ _ by omega), Bool.and_false])))
              clear htb HG
              have hd3 : decide (kHi (bt s.data.toList a) k < bt s.data.toList (a + k)) = true := decide_eq_true hhi
              go_wp2_with fail
              go_ret2
              exact ⟨ret_front HF.out rfl, rfl⟩
            · have HF := Lib.hid ((frGo_yes _ a n f k hlt (by rw [htb, decide_eq_true (by omega), decide_eq_true (by omega)]; rfl)).symm.trans HG.out)
              clear htb HG
              have hd3 : decide (kHi (bt s.data.toList a) k < bt s.data.toList (a + k)) = false := decide_eq_false hhi
              have e1 : kLo (bt s.data.toList a) (k + 1) = 128 := by unfold kLo; rw [if_neg (by omega)]
              have e2 : kHi (bt s.data.toList a) (k + 1) = 191 := by unfold kHi; rw [if_neg (by omega)]
              have E12 := Lib.hid (And.intro e1 e2)
              clear e1 e2
              go_wp2_with fail
              exact ⟨⟨k + 1, f, 128, 191, by omega, by omega, by omega, rfl, rfl, fun _ => ⟨E12.out.1.symm, E12.out.2.symm⟩, rfl, by omega, HF⟩, by (simp only [intOf]; omega)⟩
        · have hd1 : decide ((a : Int) + k < s.size) = false := decide_eq_false (by omega)
          have HF := Lib.hid (HG.out.symm.trans (frGo_no _ a n f k hlt (by unfold tailB; rw [decide_eq_false (show ¬ a + k < s.data.toList.length by simpa using hin)]; rfl)))
          have hkn2 : ((k : Int) == n) = false := by (rw [beq_eq_false_iff_ne]; omega)
          clear HG
          go_wp2_with fail
          go_ret2
          exact ⟨ret_front HF.out rfl, rfl⟩
      · have hdk : decide ((k : Int) < n) = false := decide_eq_false (by omega)
        obtain rfl : k = n := by omega
        have HF := Lib.hid (HG.out.symm.trans (frGo_end s.data.toList a k f))
        clear HG hlh2
        go_wp2_with fail
        go_ret2
        exact ⟨by first | exact ret_front HF.out rfl | (simp; exact ret_front HF.out rfl), rfl⟩
end
section
/-- The reference's scanner's block: a text, how far it went, whether it can't go on. -/
def Sr (w : World) (g : Nat) (s : ByteArray) (a : Nat) (no : Bool) : Prop := Blk w g 82 #[.string s, .int .i64 (a : Int), .bool no]
section
variable {w w' : World} {g : Nat} {s : ByteArray} {a : Nat} {no : Bool}
theorem Sr.facts (h : Sr w g s a no) : (w.cell? ⟨g, 0, none⟩ = some (.string s) ∧ w.cell? ⟨g, 1, none⟩ = some (.int .i64 (a : Int)) ∧ w.cell? ⟨g, 2, none⟩ = some (.bool no)) ∧ w.frozen? ⟨g, 1, none⟩ = false ∧ w.frozen? ⟨g, 2, none⟩ = false :=
  ⟨⟨(Blk.cell h 0).trans rfl, (Blk.cell h 1).trans rfl, (Blk.cell h 2).trans rfl⟩, Blk.frozen h 1, Blk.frozen h 2⟩
theorem Sr.lt (h : Sr w g s a no) : g < w.heap.size := Blk.lt h
theorem Sr.at1 (h : Sr w g s a no) : Sr (w.setCell ⟨g, 1, none⟩ (.int .i64 ((a : Int) + 1))) g s (a + 1) no := by
  have := Blk.set_ h 1 (.int .i64 ((a : Int) + 1))
  exact this
theorem Sr.atN (h : Sr w g s a no) (n : Nat) : Sr (w.setCell ⟨g, 1, none⟩ (.int .i64 (n : Int))) g s n no := Blk.set_ h 1 (.int .i64 (n : Int))
theorem Sr.no1 (h : Sr w g s a no) (b : Bool) : Sr (w.setCell ⟨g, 2, none⟩ (.bool b)) g s a b := Blk.set_ h 2 (.bool b)
theorem Sr.drew (h : Sr w g s a no) : Sr w.drew g s a no := h
theorem Sr.drewN (h : Sr w g s a no) (n : Nat) : Sr (w.drewN n) g s a no := h
theorem Sr.aw {S : List Nat} (h : Sr w g s a no) (k : Aw S w w') (hg : g ∉ S) : Sr w' g s a no := Blk.aw h k hg
theorem Sr.below {B : Nat} (h : Sr w g s a no) (k : Below B w w') (hg : g < B) : Sr w' g s a no := Blk.below h k hg
theorem Sr.alloc (h : Sr w g s a no) (o : Obj) : Sr (w.alloc o) g s a no := Blk.alloc h o
theorem Sr.atOf (h : Sr w g s a no) : atOf w g = a := by
  unfold Go.Proofs.YtoplengednoldaaGreatDoor.atOf; rw [h.facts.1.2.1]; simp [intOf]
theorem Sr.noOf (h : Sr w g s a no) : noOf w g = no := by
  unfold Go.Proofs.YtoplengednoldaaGreatDoor.noOf; rw [h.facts.1.2.2]
theorem Sr.mOf (h : Sr w g s a no) : mOf w g s = 2 * (s.size - a) + if no then 0 else 1 := by
  unfold Go.Proofs.YtoplengednoldaaGreatDoor.mOf; rw [h.atOf, h.noOf]
end
theorem bt_end {l : List UInt8} {a : Nat} (h : l.length ≤ a) : bt l a = 0 := by
  unfold bt; rw [List.getD_eq_getElem?_getD, List.getElem?_eq_none h]; rfl
set_option maxHeartbeats 1600000 in
theorem next_any (g : Nat) (s : ByteArray) (a : Nat) (no : Bool) (w : World) (h : Sr w g s a no) (hs : s.size ≤ 4611686018427387904) (ha : a ≤ s.size) :
    Calls Tryz.prog 40 #[.pointer (some ⟨g, 0, none⟩)] w fun e w' => e = .returned (.int .u8 (bt s.data.toList a)) ∧ ∃ q, w' = w.drewN q := by
  obtain ⟨⟨c0, c1, c2⟩, f1, f2⟩ := h.facts
  by_cases hlt : a < s.size
  · have hd : decide ((s.size : Int) ≤ a) = false := decide_eq_false (by omega)
    have HC := Lib.hid (getElem_bt hlt)
    have hi0 : (0 : Int) ≤ a := by omega
    have hi1 : (a : Int) < s.size := by omega
    go_enter Tryz.func40, Tryz.ntmps40
    go_wp2_with fail
    go_quiet (fail)
    go_wp2_with fail
    go_quiet (fail)
    go_wp2_with fail
    go_ret
    refine ⟨?_, ⟨_, World.drewN_drewN _ _ _⟩⟩
    rw [← HC.out]; rfl
  · have hd : decide ((s.size : Int) ≤ a) = true := decide_eq_true (by omega)
    rw [bt_end (by simp; omega)]
    go_enter Tryz.func40, Tryz.ntmps40
    go_wp2_with fail
    go_quiet (fail)
    go_wp2_with fail
    go_ret
    exact ⟨rfl, ⟨_, rfl⟩⟩
def hasB (m : List UInt8) (c : Int) : Bool := m.any fun d => c == d.toNat
theorem hasB_take (m : List UInt8) (c : Int) (k : Nat) (h : k < m.length) : hasB (m.drop k) c = (bt m k == c || hasB (m.drop (k + 1)) c) := by
  unfold hasB
  rw [List.drop_eq_getElem_cons h, List.any_cons, ← bt_get h]
  congr 1
  apply bcl; rw [beq_iff_eq, beq_iff_eq]; exact ⟨Eq.symm, Eq.symm⟩
set_option maxHeartbeats 1600000 in
theorem has17_any (m : ByteArray) (c : Int) (w : World) (hm : m.size ≤ 4611686018427387904) :
    Calls Tryz.prog 81 #[.string m, .int .u8 c] w fun e w' => e = .returned (.bool (hasB m.data.toList c)) ∧ w' = w := by
  have HL : Hid (m.data.toList.length = m.size) := Lib.hid (by simp)
  obtain ⟨R, hR⟩ : ∃ R, hasB m.data.toList c = R := ⟨_, rfl⟩
  have H0 : Hid (hasB (m.data.toList.drop 0) c = R) := Lib.hid (by simpa using hR)
  rw [hR]
  clear hR
  go_enter Tryz.func81, Tryz.ntmps81
  go_wp2_with fail
  go_loopw [5] (fun i wr => wr = w ∧ ∃ k : Nat, k ≤ m.size ∧ i = .int .i64 k ∧ Hid (hasB (m.data.toList.drop k) c = R)) (fun i _ => m.size - (intOf i).toNat)
  case atStart => exact ⟨rfl, 0, by omega, rfl, H0⟩
  case round =>
    clear H0
    obtain ⟨rfl, k, hk, rfl, HK⟩ := hrel
    by_cases hlt : k < m.size
    · have hd : decide ((k : Int) < m.size) = true := decide_eq_true (by omega)
      have hi0 : (0 : Int) ≤ k := by omega
      have hi1 : (k : Int) < m.size := by omega
      have hst := hasB_take m.data.toList c k (by rw [HL.out]; exact hlt)
      rw [HK.out, ← getElem_bt hlt] at hst
      clear HK
      cases hq : (((m[k]'hlt).toNat : Int) == c)
      · rw [hq, Bool.false_or] at hst
        have HK := Lib.hid hst.symm
        clear hst
        go_wp2_with fail
        exact ⟨⟨trivial, k + 1, by omega, rfl, HK⟩, by (simp only [intOf]; omega)⟩
      · rw [hq, Bool.true_or] at hst
        subst hst
        go_wp2_with fail
        go_ret
        first | exact ⟨rfl, rfl⟩ | exact ⟨rfl, trivial⟩
    · have hd : decide ((k : Int) < m.size) = false := decide_eq_false (by omega)
      have hR : false = R := by
        rw [← HK.out, List.drop_of_length_le (by rw [HL.out]; omega)]; rfl
      subst hR
      go_wp2_with fail
      go_ret
      first | exact ⟨rfl, rfl⟩ | exact ⟨rfl, trivial⟩
set_option maxHeartbeats 1600000 in
theorem has20_any (m : ByteArray) (c : Int) (w : World) (hm : m.size ≤ 4611686018427387904) :
    Calls Tryz.prog 191 #[.string m, .int .u8 c] w fun e w' => e = .returned (.bool (hasB m.data.toList c)) ∧ w' = w := by
  have HL : Hid (m.data.toList.length = m.size) := Lib.hid (by simp)
  obtain ⟨R, hR⟩ : ∃ R, hasB m.data.toList c = R := ⟨_, rfl⟩
  have H0 : Hid (hasB (m.data.toList.drop 0) c = R) := Lib.hid (by simpa using hR)
  rw [hR]
  clear hR
  go_enter Tryz.func191, Tryz.ntmps191
  go_wp2_with fail
  go_loopw [5] (fun i wr => wr = w ∧ ∃ k : Nat, k ≤ m.size ∧ i = .int .i64 k ∧ Hid (hasB (m.data.toList.drop k) c = R)) (fun i _ => m.size - (intOf i).toNat)
  case atStart => exact ⟨rfl, 0, by omega, rfl, H0⟩
  case round =>
    clear H0
    obtain ⟨rfl, k, hk, rfl, HK⟩ := hrel
    by_cases hlt : k < m.size
    · have hd : decide ((k : Int) < m.size) = true := decide_eq_true (by omega)
      have hi0 : (0 : Int) ≤ k := by omega
      have hi1 : (k : Int) < m.size := by omega
      have hst := hasB_take m.data.toList c k (by rw [HL.out]; exact hlt)
      rw [HK.out, ← getElem_bt hlt] at hst
      clear HK
      cases hq : (((m[k]'hlt).toNat : Int) == c)
      · rw [hq, Bool.false_or] at hst
        have HK := Lib.hid hst.symm
        clear hst
        go_wp2_with fail
        exact ⟨⟨trivial, k + 1, by omega, rfl, HK⟩, by (simp only [intOf]; omega)⟩
      · rw [hq, Bool.true_or] at hst
        subst hst
        go_wp2_with fail
        go_ret
        first | exact ⟨rfl, rfl⟩ | exact ⟨rfl, trivial⟩
    · have hd : decide ((k : Int) < m.size) = false := decide_eq_false (by omega)
      have hR : false = R := by
        rw [← HK.out, List.drop_of_length_le (by rw [HL.out]; omega)]; rfl
      subst hR
      go_wp2_with fail
      go_ret
      first | exact ⟨rfl, rfl⟩ | exact ⟨rfl, trivial⟩
set_option maxHeartbeats 1600000 in
theorem inDig_any (c : Int) (w : World) : Calls Tryz.prog 80 #[.int .u8 c, .int .i64 0] w fun e w' => e = .returned (.bool (digB c)) ∧ w' = w := by
  go_enter Tryz.func80, Tryz.ntmps80
  go_wp2_with fail
  all_goals go_ret
  all_goals refine ⟨ret_bool (bcl ?_), rfl⟩
  all_goals (simp [digB] <;> omega)
end
section
theorem word_step2 (l t : List UInt8) (k b : Nat) (h : k < t.length) : wordS l (t.drop k) b false = if isB l b false (bt t k) then wordS l (t.drop (k + 1)) (b + 1) false else (b, true) := by
  rw [List.drop_eq_getElem_cons h]
  conv => lhs; unfold wordS
  simp only [Bool.false_eq_true, if_false]
  rw [← bt_get h]
set_option maxRecDepth 100000 in
set_option maxHeartbeats 3200000 in
theorem lit_any (g : Nat) (s t : ByteArray) (a : Nat) (no : Bool) (b' : Nat) (n' : Bool) (w : World) (h : Sr w g s a no) (ha : a ≤ s.size) (hs : s.size ≤ 1048576) (ht : t.size ≤ 1048576) (hR : wordS s.data.toList t.data.toList a no = (b', n')) :
    Calls Tryz.prog 41 #[.pointer (some ⟨g, 0, none⟩), .string t] w fun e w' => e = .returned (.tuple #[]) ∧ Sr w' g s b' n' ∧ Aw [g] w w' := by
  have HL : Hid (s.data.toList.length = s.size) := Lib.hid (by simp)
  have HT : Hid (t.data.toList.length = t.size) := Lib.hid (by simp)
  have H0 : Hid (wordS s.data.toList (t.data.toList.drop 0) a no = (b', n')) := Lib.hid (by simpa using hR)
  clear hR
  go_enter Tryz.func41, Tryz.ntmps41
  go_wp2_with fail
  go_loopw [4] (fun i wr => ∃ (k b : Nat) (nb : Bool), k ≤ t.size ∧ b ≤ s.size ∧ i = .int .i64 k ∧ Sr wr g s b nb ∧ Aw [g] w wr ∧ Hid (wordS s.data.toList (t.data.toList.drop k) b nb = (b', n'))) (fun i _ => t.size - (intOf i).toNat)
  case atStart => exact ⟨0, a, no, by omega, ha, rfl, h, Aw.refl _ _, H0⟩
  case round =>
    clear H0
    obtain ⟨k, b, nb, hk, hb, rfl, hS, hA, HK⟩ := hrel
    obtain ⟨⟨c0, c1, c2⟩, f1, f2⟩ := hS.facts
    by_cases hlt : k < t.size
    case neg =>
      have hd : decide ((k : Int) < t.size) = false := decide_eq_false (by omega)
      obtain ⟨rfl, rfl⟩ : b = b' ∧ nb = n' := by
        have := HK.out
        rw [List.drop_of_length_le (by rw [HT.out]; omega)] at this
        unfold wordS at this
        injection this with e1 e2; exact ⟨e1, e2⟩
      clear HK
      go_wp2_with fail
      go_end0
      exact ⟨rfl, hS, hA⟩
    case pos =>
      have hd : decide ((k : Int) < t.size) = true := decide_eq_true (by omega)
      have hi0 : (0 : Int) ≤ k := by omega
      have hi1 : (k : Int) < t.size := by omega
      cases nb
      case true =>
        obtain ⟨rfl, rfl⟩ : b = b' ∧ true = n' := by
          have := HK.out
          rw [wordS_no] at this
          injection this with e1 e2; exact ⟨e1, e2⟩
        clear HK
        go_wp2_with fail
        go_end0
        exact ⟨rfl, hS, hA⟩
      case false =>
        have hst := HK.out
        rw [word_step2 _ _ _ _ (by rw [HT.out]; exact hlt)] at hst
        clear HK
        by_cases hbs : b < s.size
        case neg =>
          have hd2 : decide ((s.size : Int) ≤ b) = true := decide_eq_true (by omega)
          have : isB s.data.toList b false (bt t.data.toList k) = false := isB_end (by rw [HL.out]; omega)
          rw [this, if_neg (by simp)] at hst
          obtain ⟨rfl, rfl⟩ : b = b' ∧ true = n' := by injection hst with e1 e2; exact ⟨e1, e2⟩
          clear hst this
          go_wp2_with fail
          go_quiet (fail)
          go_wp2_with fail
          refine bodyPost_ret (results_none rfl _ _ _) rfl ?_
          exact ⟨rfl, (hS.drewN _).no1 true, (hA.drewN _).setCell (.inl (by simp)) _⟩
        case pos =>
          have hd2 : decide ((s.size : Int) ≤ b) = false := decide_eq_false (by omega)
          have hj0 : (0 : Int) ≤ b := by omega
          have hj1 : (b : Int) < s.size := by omega
          have hq : isB s.data.toList b false (bt t.data.toList k) = (((s[b]'hbs).toNat : Int) == ((t[k]'hlt).toNat : Int)) := by
            unfold isB pkB
            rw [getElem_bt hbs, getElem_bt hlt]
            simp [hbs]
          rw [hq] at hst
          clear hq
          cases hc : (((s[b]'hbs).toNat : Int) == ((t[k]'hlt).toNat : Int))
          · rw [hc, if_neg (by simp)] at hst
            have hc2 : (((s[b]'hbs).toNat : Int) != ((t[k]'hlt).toNat : Int)) = true := by rw [bne, hc]; rfl
            obtain ⟨rfl, rfl⟩ : b = b' ∧ true = n' := by injection hst with e1 e2; exact ⟨e1, e2⟩
            clear hst
            go_wp2_with fail
            go_quiet (fail)
            go_wp2_with fail
            refine bodyPost_ret (results_none rfl _ _ _) rfl ?_
            exact ⟨rfl, (hS.drewN _).no1 true, (hA.drewN _).setCell (.inl (by simp)) _⟩
          · rw [hc, if_pos rfl] at hst
            have hc2 : (((s[b]'hbs).toNat : Int) != ((t[k]'hlt).toNat : Int)) = false := by rw [bne, hc]; rfl
            have HK := Lib.hid hst
            clear hst
            go_wp2_with fail
            go_quiet (fail)
            go_wp2_with fail
            exact ⟨⟨k + 1, b + 1, false, by omega, by omega, rfl, (hS.drewN _).at1, (hA.drewN _).setCell (.inl (by simp)) _, HK⟩, by (simp only [intOf]; omega)⟩
theorem digC {c : Int} {q : Bool} (h : digB c = q) (w : World) (n : Nat) : Calls Tryz.prog 80 #[.int .u8 c, .int .i64 0] (w.drewN n) fun e w' => e = .returned (.bool q) ∧ w' = w.drewN n := by
  rw [← h]; exact inDig_any c _
theorem has0 (c : Int) (w : World) (n : Nat) : Calls Tryz.prog 81 #[.string ⟨#[]⟩, .int .u8 c] (w.drewN n) fun e w' => e = .returned (.bool false) ∧ w' = w.drewN n := has17_any ⟨#[]⟩ c _ (by decide)
set_option maxRecDepth 100000 in
set_option maxHeartbeats 3200000 in
theorem run_dig (g : Nat) (s : ByteArray) (a : Nat) (no : Bool) (b' : Nat) (n' : Bool) (w : World) (h : Sr w g s a no) (ha : a ≤ s.size) (hs : s.size ≤ 1048576) (hR : someS s.data.toList digB a no = (b', n')) :
    Calls Tryz.prog 39 #[.pointer (some ⟨g, 0, none⟩), .int .i64 0, .string ⟨#[]⟩, .bool false] w fun e w' => e = .returned (.string (s.extract a b')) ∧ Sr w' g s b' n' ∧ Aw [g] w w' := by
  have HL : Hid (s.data.toList.length = s.size) := Lib.hid (by simp)
  have hw : whN s.data.toList digB a no = b' := by
    unfold whN; unfold someS at hR
    cases no
    · simp only [Bool.false_eq_true, if_false] at hR ⊢; injection hR
    · simp only [if_true] at hR ⊢; injection hR
  have hle := whN_le s.data.toList digB a no (by rw [HL.out]; exact ha)
  rw [hw, HL.out] at hle
  have hend : n' = (no || b' == a) := by
    unfold someS at hR
    cases no
    · simp only [Bool.false_eq_true, if_false] at hR
      injection hR with e1 e2
      rw [← e2, e1]; rfl
    · simp only [if_true] at hR
      injection hR with e1 e2
      rw [← e2]; rfl
  have HR := Lib.hid hw
  have HE := Lib.hid hend
  have ha0 : (0 : Int) ≤ a := by omega
  have hle1 : (a : Int) ≤ b' := by omega
  have hle2 : (b' : Int) ≤ s.size := by omega
  clear hR hw hend
  obtain ⟨⟨c0, c1, c2⟩, f1, f2⟩ := h.facts
  go_enter Tryz.func39, Tryz.ntmps39
  go_wp2_with fail
  go_loopw [14] (fun _ wr => ∃ b : Nat, a ≤ b ∧ b ≤ s.size ∧ Sr wr g s b no ∧ Aw [g] w wr ∧ Hid (whN s.data.toList digB b no = b')) (fun _ wr => s.size - atOf wr g)
  case atStart => exact ⟨a, Nat.le_refl _, ha, h, Aw.refl _ _, HR⟩
  case round =>
    obtain ⟨b, hab, hb, hS, hA, HG⟩ := hrel
    clear HR h c0 c1 c2 f1 f2
    obtain ⟨⟨c0, c1, c2⟩, f1, f2⟩ := hS.facts
    have hat := hS.atOf
    have hj0 : (0 : Int) ≤ b := by omega
    by_cases hgo : no = false ∧ ∃ h : b < s.size, digB ((s[b]'h).toNat : Int) = true
    · obtain ⟨rfl, hlt, hd⟩ := hgo
      have hd2 : decide ((b : Int) < s.size) = true := decide_eq_true (by omega)
      have hj1 : (b : Int) < s.size := by omega
      have HK : Hid (whN s.data.toList digB (b + 1) false = b') := Lib.hid (by
        rw [← HG.out]
        refine (whN_yes (by simp [pkB]; omega) ?_).1.symm
        unfold pkC
        rw [if_pos (by simp [pkB]; omega), ← getElem_bt hlt]; exact hd)
      clear HG
      go_wp2_with fail
      refine wp_region_quiet_lit (by kernel_rfl) (by kernel_rfl) ?_
      simp only [List.append]
      repeat (go_big_quiet_step (first
        | (go_at_call 80; exact Calls.quiet_of_same (digC hd _ _))
        | (go_at_call 81; exact Calls.quiet_of_same (has0 _ _ _))))
      refine wpQuiet_nil ?_
      intro _ hw'
      obtain ⟨nq, hw''⟩ := hw'
      subst hw''
      go_wp2_with fail
      have hS2 := (hS.drewN nq).at1
      exact ⟨⟨b + 1, by omega, by omega, (hS.drewN _).at1, (hA.drewN _).setCell (.inl (by simp)) _, HK⟩, by (rw [((hS.drewN _).at1).atOf, hat]; omega)⟩
    · obtain rfl : b = b' := by
        have := HG.out
        rw [whN_no ?_ (by rw [HL.out]; exact hb)] at this
        · exact this
        · cases no
          · by_cases hlt : b < s.size
            · right
              cases hd : digB ((s[b]'hlt).toNat : Int)
              · unfold pkC
                rw [if_pos (by simp [pkB]; omega), ← getElem_bt hlt]; exact hd
              · exact absurd ⟨rfl, hlt, hd⟩ hgo
            · left; simp [pkB]; omega
          · left; rfl
      clear HG
      have hE := HE.out
      obtain ⟨q, hq⟩ : ∃ q, ((b : Int) == (a : Int)) = q := ⟨_, rfl⟩
      have hqn : (b == a) = q := by rw [← hq]; apply bcl; simp; omega
      rw [hqn] at hE
      clear hqn HE
      cases no
      case true =>
        rw [Bool.true_or] at hE
        subst hE
        clear hgo
        go_wp2_with fail
        refine wp_region_quiet_lit (by kernel_rfl) (by kernel_rfl) ?_
        simp only [List.append]
        repeat (go_big_quiet_step (fail))
        refine wpQuiet_nil ?_
        intro _ hw'
        obtain ⟨nq, hw''⟩ := hw'
        subst hw''
        cases q
        · go_wp2_with fail
          go_quiet (fail)
          go_wp2_with fail
          go_ret
          exact ⟨rfl, (hS.drewN _).drewN _, (hA.drewN _).drewN _⟩
        · go_wp2_with fail
          go_quiet (fail)
          go_wp2_with fail
          go_ret
          exact ⟨rfl, ((hS.drewN _).no1 true).drewN _, ((hA.drewN _).setCell (.inl (by simp)) _).drewN _⟩
      case false =>
        rw [Bool.false_or] at hE
        subst hE
        by_cases hlt : b < s.size
        case neg =>
          have hd2 : decide ((b : Int) < s.size) = false := decide_eq_false (by omega)
          clear hgo
          go_wp2_with fail
          refine wp_region_quiet_lit (by kernel_rfl) (by kernel_rfl) ?_
          simp only [List.append]
          repeat (go_big_quiet_step (fail))
          refine wpQuiet_nil ?_
          intro _ hw'
          obtain ⟨nq, hw''⟩ := hw'
          subst hw''
          cases n'
          · go_wp2_with fail
            go_quiet (fail)
            go_wp2_with fail
            go_ret
            exact ⟨rfl, (hS.drewN _).drewN _, (hA.drewN _).drewN _⟩
          · go_wp2_with fail
            go_quiet (fail)
            go_wp2_with fail
            go_ret
            exact ⟨rfl, ((hS.drewN _).no1 true).drewN _, ((hA.drewN _).setCell (.inl (by simp)) _).drewN _⟩
        case pos =>
          have hd2 : decide ((b : Int) < s.size) = true := decide_eq_true (by omega)
          have hj1 : (b : Int) < s.size := by omega
          have hd : digB ((s[b]'hlt).toNat : Int) = false := by
            cases hd : digB ((s[b]'hlt).toNat : Int)
            · rfl
            · exact absurd ⟨rfl, hlt, hd⟩ hgo
          clear hgo
          go_wp2_with fail
          refine wp_region_quiet_lit (by kernel_rfl) (by kernel_rfl) ?_
          simp only [List.append]
          repeat (go_big_quiet_step ((go_at_call 80; exact Calls.quiet_of_same (digC hd _ _))))
          refine wpQuiet_nil ?_
          intro _ hw'
          obtain ⟨nq, hw''⟩ := hw'
          subst hw''
          cases n'
          · go_wp2_with fail
            go_quiet (fail)
            go_wp2_with fail
            go_ret
            exact ⟨rfl, (hS.drewN _).drewN _, (hA.drewN _).drewN _⟩
          · go_wp2_with fail
            go_quiet (fail)
            go_wp2_with fail
            go_ret
            exact ⟨rfl, ((hS.drewN _).no1 true).drewN _, ((hA.drewN _).setCell (.inl (by simp)) _).drewN _⟩
end
section
section
variable {P : Program} (w : World)
theorem step_append_str {ops : Array Oper} {o : Oper} {a : Act} {K : Act → World → Prop} {Q : Exit → Act → World → Prop} {E : Prop} (hgd : o.guard = none) (s x : Operand) (t u : TypeId)
    (ho : o.op = .call { callee := .builtin .append, args := #[s, x], argTypes := #[t, u] })
    (base : Nat) (e : TypeId) (i : TypeInfo) (ht : P.underlying t = some (.slice e)) (hu : P.underlying u = some .string) (hi : P.info? e = some i) (hz : i.zero = some (.int .u8 0)) (hsize : i.size = 1) (hby : i.bytes = 1)
    (v : Value) (n : Nat) (xs : List Value) (hs : a.eval s = v) (hown : w.ownsRow base e 1 v n xs) (st : ByteArray) (hx : a.eval x = .string st)
    (h63 : n + st.size ≤ maxLen) (hbytes : n + st.size ≤ 140737488355328) (hbase : base ≤ w.heap.size)
    (h : ∀ v' w', w'.ownsRow base e 1 v' (n + st.size) (xs ++ Lib.strCells st) → w.grownBy w' v.ownBlock → K (a.put o.dst v') w') :
    if Region.wanted o (yielded ops a.tmps) = true then Oper.wp P o a w K Q else E := by
  have hw : Region.wanted o (yielded ops a.tmps) = true := by simp [Region.wanted, hgd]
  rw [if_pos hw]
  obtain ⟨v', w', hrun, h2, h3, _⟩ := Lib.run_append_own_string (P := P) w base t u o.type e i ht hu hi hz hsize hby v n xs hown st h63 hbytes hbase
  unfold Oper.wp execOp
  simp only [ho, resolve, invoke, builtin, Sem.run_bind, Sem.run_pure, Result.andThen_ok, List.map_toArray, List.map_cons, List.map_nil, hs, hx, hrun]
  exact h v' w' h2 h3
end
set_option maxRecDepth 100000 in
set_option maxHeartbeats 3200000 in
theorem number_ref (g : Nat) (s : ByteArray) (a : Nat) (no : Bool) (b' : Nat) (n' : Bool) (w : World) (h : Sr w g s a no) (ha : a ≤ s.size) (hs : s.size ≤ 1048576) (hR : numS s.data.toList a no = (b', n')) :
    Calls Tryz.prog 42 #[.pointer (some ⟨g, 0, none⟩), .bool true] w fun e w' => e = .returned (.string (mkS (cutL s.data.toList a b'))) ∧ Sr w' g s b' n' ∧ Aw [g] w w' := by
  have hL : s.data.toList.length = s.size := by simp
  obtain ⟨⟨c0, c1, c2⟩, f1, f2⟩ := h.facts
  cases no
  case true =>
    obtain ⟨rfl, rfl⟩ : a = b' ∧ true = n' := by unfold numS at hR; injection hR with e1 e2; exact ⟨e1, e2⟩
    have h0 : mkS (cutL s.data.toList a a) = ⟨#[]⟩ := by unfold cutL; simp [mkS]
    rw [h0]
    clear h0 hR hL
    go_enter Tryz.func42, Tryz.ntmps42
    go_wp2_with fail
    go_ret
    exact ⟨rfl, h, Aw.refl _ _⟩
  case false =>
    have hle := takeA_le s.data.toList a false 45 (by rw [hL]; exact ha)
    unfold numS at hR
    simp only [Bool.false_eq_true, if_false] at hR
    have hl2 := someS_le s.data.toList digB (takeA s.data.toList a false 45) false hle.2
    rw [hR] at hl2
    rw [hL] at hle hl2
    simp only at hl2
    have hi0 : (0 : Int) ≤ a := by omega
    have hi1 : (a : Int) ≤ b' := by omega
    have hi2 : (b' : Int) ≤ s.size := by omega
    have kN := fun W h => next_any g s a false W h (Nat.le_trans hs (by decide)) ha
    have hq : (bt s.data.toList a == 45) = isB s.data.toList a false 45 := by
      unfold isB pkB
      by_cases hlt : a < s.size
      · simp [hlt]
      · rw [bt_end (by omega)]; simp [hlt]
    unfold takeA at hle hR
    cases hb : isB s.data.toList a false 45
    · rw [hb] at hq hle hR
      simp only [Bool.false_eq_true, if_false] at hle hR
      have kR := fun W h => run_dig g s a false b' n' W h ha hs hR
      rw [← ext_cut]
      clear hR hb hL
      generalize bt s.data.toList a = c at kN hq
      go_enter Tryz.func42, Tryz.ntmps42
      go_wp2_with (first
        | (go_at_call 40; refine (kN _ h).mono ?_; rintro e w1 ⟨rfl, q1, rfl⟩)
        | (go_at_call 39; refine (kR _ (h.drewN _)).mono ?_; rintro e w2 ⟨rfl, h2, hA2⟩; obtain ⟨⟨d0, d1, d2⟩, g1, g2⟩ := h2.facts))
      all_goals
        go_quiet (fail)
        go_wp2_with fail
        go_ret
        exact ⟨rfl, h2.drewN _, (((Aw.refl _ _).drewN _).trans hA2).drewN _⟩
    · rw [hb] at hq hle hR
      simp only [if_true] at hle hR
      have kR := fun W h => run_dig g s (a + 1) false b' n' W h hle.2 hs hR
      rw [← ext_cut]
      clear hR hb hL
      generalize bt s.data.toList a = c at kN hq
      go_enter Tryz.func42, Tryz.ntmps42
      go_wp2_with (first
        | (go_at_call 40; refine (kN _ h).mono ?_; rintro e w1 ⟨rfl, q1, rfl⟩)
        | (go_at_call 39; refine (kR _ (h.drewN q1).at1).mono ?_; rintro e w2 ⟨rfl, h2, hA2⟩; obtain ⟨⟨d0, d1, d2⟩, g1, g2⟩ := h2.facts))
      all_goals
        go_quiet (fail)
        go_wp2_with fail
        go_ret
        exact ⟨rfl, h2.drewN _, ((((Aw.refl _ _).drewN _).setCell (.inl (by simp)) _).trans hA2).drewN _⟩
/-- The reference's scanner, and a row of bytes of the call's own. -/
def SB (w0 w : World) (g : Nat) (s : ByteArray) (b : Nat) (nb : Bool) (acc : List UInt8) (v : Value) : Prop := Sr w g s b nb ∧ w.ownsRow w0.heap.size 5 1 v acc.length (Lib.byteCells acc) ∧ Aw [g] w0 w ∧ g < w0.heap.size
section
variable {w0 w w1 : World} {g : Nat} {s : ByteArray} {b : Nat} {nb : Bool} {acc : List UInt8} {v : Value}
theorem SB.drew (h : SB w0 w g s b nb acc v) : SB w0 w.drew g s b nb acc v := ⟨h.1.drew, h.2.1, h.2.2.1.drew, h.2.2.2⟩
theorem SB.drewN (h : SB w0 w g s b nb acc v) (n : Nat) : SB w0 (w.drewN n) g s b nb acc v := ⟨h.1.drewN n, own_drewN h.2.1 n, h.2.2.1.drewN n, h.2.2.2⟩
theorem SB.set {p : Addr} {u : Value} {b' : Nat} {nb' : Bool} (h : SB w0 w g s b nb acc v) (hp : p.block = g) (hs : Sr (w.setCell p u) g s b' nb') : SB w0 (w.setCell p u) g s b' nb' acc v :=
  ⟨hs, own_aw h.2.1 (S := [g]) ((Aw.refl _ _).setCell (.inl (by rw [hp]; simp)) u) (fun i hi e => by
    rw [List.mem_singleton] at e; subst e; exact own_blk_ne h.2.1 h.1 (by decide) hi), h.2.2.1.setCell (.inl (by rw [hp]; simp)) u, h.2.2.2⟩
/-- Behind an append. -/
theorem SB.app {w2 : World} {v' : Value} {xs : List UInt8} {n : Nat} (h : SB w0 w g s b nb acc v) (o : Obj) (hg : (w.alloc o).grownBy w2 v.ownBlock) (hn : n = (acc ++ xs).length) (ho : w2.ownsRow w0.heap.size 5 1 v' n (Lib.byteCells acc ++ Lib.byteCells xs)) : SB w0 w2 g s b nb (acc ++ xs) v' := by
  subst hn
  exact ⟨Blk.grown (Blk.alloc h.1 o) hg (fun e => own_blk_ne h.2.1 h.1 (by decide) e.symm), by rw [byteCells_app]; exact ho,
    (h.2.2.1.alloc o).grown hg (fun k hk => .inr (h.2.1.lt k hk).1), h.2.2.2⟩
theorem SB.app0 {w2 : World} {v' : Value} {xs : List UInt8} {n : Nat} (h : SB w0 w g s b nb acc v) (hg : w.grownBy w2 v.ownBlock) (hn : n = (acc ++ xs).length) (ho : w2.ownsRow w0.heap.size 5 1 v' n (Lib.byteCells acc ++ Lib.byteCells xs)) : SB w0 w2 g s b nb (acc ++ xs) v' := by
  subst hn
  exact ⟨Blk.grown h.1 hg (fun e => own_blk_ne h.2.1 h.1 (by decide) e.symm), by rw [byteCells_app]; exact ho,
    h.2.2.1.grown hg (fun k hk => .inr (h.2.1.lt k hk).1), h.2.2.2⟩
end
theorem frontC {s : ByteArray} {a n : Nat} {q : Bool} (h : frontU s.data.toList a = (n, q)) (ha : a < s.size) (hs : s.size ≤ 4611686018427387904) (w : World) (k : Nat) : Calls Tryz.prog 190 #[.string s, .int .i64 a] (w.drewN k) fun e w' => e = .returned (.tuple #[.int .i64 (n : Int), .bool q]) ∧ w.drewN k = w' := by
  have := refFront_any s a (w.drewN k) ha hs
  rw [h] at this; exact this
theorem escB_has {l m : List UInt8} {b : Nat} (h : b + 1 < l.length) : escB l m b = hasB m (bt l (b + 1)) := by
  unfold escB hasB; simp [h]
end
section
set_option maxRecDepth 100000 in
set_option maxHeartbeats 3200000 in
theorem run_cls (cls : Int) (but : ByteArray) (P Q : Int → Bool) (hP : ∀ c, P c = (Q c && !hasB but.data.toList c)) (hbs : but.size ≤ 4611686018427387904) (kIn : ∀ c W, 0 ≤ c → c ≤ 255 → Calls Tryz.prog 80 #[.int .u8 c, .int .i64 cls] W fun e w' => e = .returned (.bool (Q c)) ∧ w' = W) (g : Nat) (s : ByteArray) (a : Nat) (no : Bool) (b' : Nat) (n' : Bool) (w : World) (h : Sr w g s a no) (ha : a ≤ s.size) (hs : s.size ≤ 1048576) (hR : someS s.data.toList P a no = (b', n')) :
    Calls Tryz.prog 39 #[.pointer (some ⟨g, 0, none⟩), .int .i64 cls, .string but, .bool false] w fun e w' => e = .returned (.string (s.extract a b')) ∧ Sr w' g s b' n' ∧ Aw [g] w w' := by
  have HL : Hid (s.data.toList.length = s.size) := Lib.hid (by simp)
  have hw : whN s.data.toList P a no = b' := by
    unfold whN; unfold someS at hR
    cases no
    · simp only [Bool.false_eq_true, if_false] at hR ⊢; injection hR
    · simp only [if_true] at hR ⊢; injection hR
  have hle := whN_le s.data.toList P a no (by rw [HL.out]; exact ha)
  rw [hw, HL.out] at hle
  have hend : n' = (no || b' == a) := by
    unfold someS at hR
    cases no
    · simp only [Bool.false_eq_true, if_false] at hR
      injection hR with e1 e2
      rw [← e2, e1]; rfl
    · simp only [if_true] at hR
      injection hR with e1 e2
      rw [← e2]; rfl
  have HR := Lib.hid hw
  have HE := Lib.hid hend
  have ha0 : (0 : Int) ≤ a := by omega
  have hle1 : (a : Int) ≤ b' := by omega
  have hle2 : (b' : Int) ≤ s.size := by omega
  clear hR hw hend
  obtain ⟨⟨c0, c1, c2⟩, f1, f2⟩ := h.facts
  go_enter Tryz.func39, Tryz.ntmps39
  go_wp2_with fail
  go_loopw [14] (fun _ wr => ∃ b : Nat, a ≤ b ∧ b ≤ s.size ∧ Sr wr g s b no ∧ Aw [g] w wr ∧ Hid (whN s.data.toList P b no = b')) (fun _ wr => s.size - atOf wr g)
  case atStart => exact ⟨a, Nat.le_refl _, ha, h, Aw.refl _ _, HR⟩
  case round =>
    obtain ⟨b, hab, hb, hS, hA, HG⟩ := hrel
    clear HR h c0 c1 c2 f1 f2
    obtain ⟨⟨c0, c1, c2⟩, f1, f2⟩ := hS.facts
    have hat := hS.atOf
    have hj0 : (0 : Int) ≤ b := by omega
    by_cases hgo : no = false ∧ ∃ h : b < s.size, P ((s[b]'h).toNat : Int) = true
    · obtain ⟨rfl, hlt, hd⟩ := hgo
      have hd2 : decide ((b : Int) < s.size) = true := decide_eq_true (by omega)
      have hj1 : (b : Int) < s.size := by omega
      have HK : Hid (whN s.data.toList P (b + 1) false = b') := Lib.hid (by
        rw [← HG.out]
        refine (whN_yes (by simp [pkB]; omega) ?_).1.symm
        unfold pkC
        rw [if_pos (by simp [pkB]; omega), ← getElem_bt hlt]; exact hd)
      have hd' := hd
      rw [hP, Bool.and_eq_true, Bool.not_eq_true'] at hd'
      have c255 : ((s[b]'hlt).toNat : Int) ≤ 255 := by have := (s[b]'hlt).toNat_lt; omega
      have kI1 := fun W => kIn ((s[b]'hlt).toNat : Int) W (by omega) c255
      rw [hd'.1] at kI1
      have kH1 := fun W => has17_any but ((s[b]'hlt).toNat : Int) W hbs
      rw [hd'.2] at kH1
      clear HG hd' hP kIn
      go_wp2_with fail
      refine wp_region_quiet_lit (by kernel_rfl) (by kernel_rfl) ?_
      simp only [List.append]
      repeat (go_big_quiet_step (first
        | (go_at_call 80; exact Calls.quiet_of_same (kI1 _))
        | (go_at_call 81; exact Calls.quiet_of_same (kH1 _))))
      refine wpQuiet_nil ?_
      intro _ hw'
      obtain ⟨nq, hw''⟩ := hw'
      subst hw''
      go_wp2_with fail
      have hS2 := (hS.drewN nq).at1
      exact ⟨⟨b + 1, by omega, by omega, (hS.drewN _).at1, (hA.drewN _).setCell (.inl (by simp)) _, HK⟩, by (rw [((hS.drewN _).at1).atOf, hat]; omega)⟩
    · obtain rfl : b = b' := by
        have := HG.out
        rw [whN_no ?_ (by rw [HL.out]; exact hb)] at this
        · exact this
        · cases no
          · by_cases hlt : b < s.size
            · right
              cases hd : P ((s[b]'hlt).toNat : Int)
              · unfold pkC
                rw [if_pos (by simp [pkB]; omega), ← getElem_bt hlt]; exact hd
              · exact absurd ⟨rfl, hlt, hd⟩ hgo
            · left; simp [pkB]; omega
          · left; rfl
      clear HG
      have hE := HE.out
      obtain ⟨q, hq⟩ : ∃ q, ((b : Int) == (a : Int)) = q := ⟨_, rfl⟩
      have hqn : (b == a) = q := by rw [← hq]; apply bcl; simp; omega
      rw [hqn] at hE
      clear hqn HE
      cases no
      case true =>
        rw [Bool.true_or] at hE
        subst hE
        clear hgo
        go_wp2_with fail
        refine wp_region_quiet_lit (by kernel_rfl) (by kernel_rfl) ?_
        simp only [List.append]
        repeat (go_big_quiet_step (fail))
        refine wpQuiet_nil ?_
        intro _ hw'
        obtain ⟨nq, hw''⟩ := hw'
        subst hw''
        cases q
        · go_wp2_with fail
          go_quiet (fail)
          go_wp2_with fail
          go_ret
          exact ⟨rfl, (hS.drewN _).drewN _, (hA.drewN _).drewN _⟩
        · go_wp2_with fail
          go_quiet (fail)
          go_wp2_with fail
          go_ret
          exact ⟨rfl, ((hS.drewN _).no1 true).drewN _, ((hA.drewN _).setCell (.inl (by simp)) _).drewN _⟩
      case false =>
        rw [Bool.false_or] at hE
        subst hE
        by_cases hlt : b < s.size
        case neg =>
          have hd2 : decide ((b : Int) < s.size) = false := decide_eq_false (by omega)
          clear hgo
          go_wp2_with fail
          refine wp_region_quiet_lit (by kernel_rfl) (by kernel_rfl) ?_
          simp only [List.append]
          repeat (go_big_quiet_step (fail))
          refine wpQuiet_nil ?_
          intro _ hw'
          obtain ⟨nq, hw''⟩ := hw'
          subst hw''
          cases n'
          · go_wp2_with fail
            go_quiet (fail)
            go_wp2_with fail
            go_ret
            exact ⟨rfl, (hS.drewN _).drewN _, (hA.drewN _).drewN _⟩
          · go_wp2_with fail
            go_quiet (fail)
            go_wp2_with fail
            go_ret
            exact ⟨rfl, ((hS.drewN _).no1 true).drewN _, ((hA.drewN _).setCell (.inl (by simp)) _).drewN _⟩
        case pos =>
          have hd2 : decide ((b : Int) < s.size) = true := decide_eq_true (by omega)
          have hj1 : (b : Int) < s.size := by omega
          have hd : P ((s[b]'hlt).toNat : Int) = false := by
            cases hd : P ((s[b]'hlt).toNat : Int)
            · rfl
            · exact absurd ⟨rfl, hlt, hd⟩ hgo
          have c255 : ((s[b]'hlt).toNat : Int) ≤ 255 := by have := (s[b]'hlt).toNat_lt; omega
          have kI1 := fun W => kIn ((s[b]'hlt).toNat : Int) W (by omega) c255
          have kH1 := fun W => has17_any but ((s[b]'hlt).toNat : Int) W hbs
          rw [hP] at hd
          clear hgo hP kIn
          cases hq1 : Q ((s[b]'hlt).toNat : Int)
          case false =>
            rw [hq1] at kI1
            clear hd hq1 kH1
            go_wp2_with fail
            refine wp_region_quiet_lit (by kernel_rfl) (by kernel_rfl) ?_
            simp only [List.append]
            repeat (go_big_quiet_step ((go_at_call 80; exact Calls.quiet_of_same (kI1 _))))
            refine wpQuiet_nil ?_
            intro _ hw'
            obtain ⟨nq, hw''⟩ := hw'
            subst hw''
            cases n'
            · go_wp2_with fail
              go_quiet (fail)
              go_wp2_with fail
              go_ret
              exact ⟨rfl, (hS.drewN _).drewN _, (hA.drewN _).drewN _⟩
            · go_wp2_with fail
              go_quiet (fail)
              go_wp2_with fail
              go_ret
              exact ⟨rfl, ((hS.drewN _).no1 true).drewN _, ((hA.drewN _).setCell (.inl (by simp)) _).drewN _⟩
          case true =>
            rw [hq1] at kI1 hd
            rw [Bool.true_and, Bool.not_eq_false'] at hd
            rw [hd] at kH1
            clear hd hq1
            go_wp2_with fail
            refine wp_region_quiet_lit (by kernel_rfl) (by kernel_rfl) ?_
            simp only [List.append]
            repeat (go_big_quiet_step (first | (go_at_call 80; exact Calls.quiet_of_same (kI1 _)) | (go_at_call 81; exact Calls.quiet_of_same (kH1 _))))
            refine wpQuiet_nil ?_
            intro _ hw'
            obtain ⟨nq, hw''⟩ := hw'
            subst hw''
            cases n'
            · go_wp2_with fail
              go_quiet (fail)
              go_wp2_with fail
              go_ret
              exact ⟨rfl, (hS.drewN _).drewN _, (hA.drewN _).drewN _⟩
            · go_wp2_with fail
              go_quiet (fail)
              go_wp2_with fail
              go_ret
              exact ⟨rfl, ((hS.drewN _).no1 true).drewN _, ((hA.drewN _).setCell (.inl (by simp)) _).drewN _⟩
set_option maxHeartbeats 1600000 in
theorem in5_any (c : Int) (w : World) (h0 : 0 ≤ c) (h1 : c ≤ 255) : Calls Tryz.prog 80 #[.int .u8 c, .int .i64 5] w fun e w' => e = .returned (.bool (stName c)) ∧ w' = w := by
  go_enter Tryz.func80, Tryz.ntmps80
  go_wp2_with fail
  all_goals go_ret
  all_goals refine ⟨ret_bool (bcl ?_), rfl⟩
  all_goals (simp [stName, letB, digB] <;> omega)
def visB (c : Int) : Bool := decide (33 ≤ c) && decide (c ≤ 126)
set_option maxHeartbeats 1600000 in
theorem in6_any (c : Int) (w : World) (h0 : 0 ≤ c) (h1 : c ≤ 255) : Calls Tryz.prog 80 #[.int .u8 c, .int .i64 6] w fun e w' => e = .returned (.bool (visB c)) ∧ w' = w := by
  go_enter Tryz.func80, Tryz.ntmps80
  go_wp2_with fail
  all_goals go_ret
  all_goals refine ⟨ret_bool (bcl ?_), rfl⟩
  all_goals (simp [visB] <;> omega)
theorem stInk_vis (c : Int) : stInk c = (visB c && !hasB (⟨#[124]⟩ : ByteArray).data.toList c) := by
  apply bcl; simp [stInk, visB, hasB]; omega
theorem stValue_vis (c : Int) : stValue c = (visB c && !hasB (⟨#[44, 124]⟩ : ByteArray).data.toList c) := by
  apply bcl; simp [stValue, stInk, visB, hasB]; omega
theorem stName_dot (c : Int) : stName c = (stName c && !hasB (⟨#[]⟩ : ByteArray).data.toList c) := by
  simp [hasB]
end
section
theorem isB_nx {l : List UInt8} {a : Nat} {c : Int} (hc : c ≠ 0) : isB l a false c = (bt l a == c) := by
  unfold isB pkB
  by_cases h : a < l.length
  · simp [h]
  · rw [bt_end (by omega)]
    simp [h]
    exact fun e => hc e.symm
theorem nx_lt {l : List UInt8} {p n : Nat} {c : Int} (hl : l.length = n) (hc : c ≠ 0) (h : bt l p = c) : p < n := by
  rcases Nat.lt_or_ge p n with h' | h'
  · exact h'
  · rw [bt_end (by omega)] at h; exact absurd h.symm hc
set_option maxRecDepth 100000 in
set_option maxHeartbeats 6400000 in
theorem number_dec (g : Nat) (s : ByteArray) (a : Nat) (no : Bool) (b' : Nat) (n' : Bool) (w : World) (h : Sr w g s a no) (ha : a ≤ s.size) (hs : s.size ≤ 1048576) (hR : decS s.data.toList a no = (b', n')) :
    Calls Tryz.prog 42 #[.pointer (some ⟨g, 0, none⟩), .bool false] w fun e w' => e = .returned (.string (mkS (cutL s.data.toList a b'))) ∧ Sr w' g s b' n' ∧ Aw [g] w w' := by
  have hL : s.data.toList.length = s.size := by simp
  obtain ⟨⟨c0, c1, c2⟩, f1, f2⟩ := h.facts
  cases no
  case true =>
    obtain ⟨rfl, rfl⟩ : a = b' ∧ true = n' := by unfold decS numS at hR; simp at hR; exact ⟨hR.1, hR.2.symm⟩
    have h0 : mkS (cutL s.data.toList a a) = ⟨#[]⟩ := by unfold cutL; simp [mkS]
    rw [h0]
    clear h0 hR hL
    go_enter Tryz.func42, Tryz.ntmps42
    go_wp2_with fail
    go_ret
    exact ⟨rfl, h, Aw.refl _ _⟩
  case false =>
    have hs2 : s.size ≤ 4611686018427387904 := Nat.le_trans hs (by decide)
    obtain ⟨a0, ha0⟩ : ∃ a0, takeA s.data.toList a false 45 = a0 := ⟨_, rfl⟩
    obtain ⟨p1, m1, h1⟩ : ∃ p1 m1, someS s.data.toList digB a0 false = (p1, m1) := ⟨_, _, rfl⟩
    have hn : numS s.data.toList a false = (p1, m1) := by unfold numS; simp [ha0, h1]
    unfold decS at hR
    rw [hn] at hR
    have hle := takeA_le s.data.toList a false 45 (by rw [hL]; exact ha)
    rw [ha0] at hle
    have hl1 := someS_le s.data.toList digB a0 false hle.2
    rw [h1] at hl1
    rw [hL] at hle hl1
    simp only at hl1 hR
    have hi0 : (0 : Int) ≤ a := by omega
    have kN := fun W h => next_any g s a false W h hs2 ha
    have kR := fun W h => run_dig g s a0 false p1 m1 W h hle.2 hs h1
    have kN2 := fun W h => next_any g s p1 m1 W h hs2 hl1.2
    have hq : (bt s.data.toList a == 45) = isB s.data.toList a false 45 := (isB_nx (by decide)).symm
    unfold takeA at ha0
    rw [← ext_cut]
    cases m1
    case true =>
      simp only [if_true] at hR
      obtain ⟨rfl, rfl⟩ : p1 = b' ∧ true = n' := by injection hR with e1 e2; exact ⟨e1, e2⟩
      have hi1 : (a : Int) ≤ p1 := by omega
      have hi2 : (p1 : Int) ≤ s.size := by omega
      cases hb : isB s.data.toList a false 45
      all_goals
        rw [hb] at hq ha0
        simp only [Bool.false_eq_true, if_false, if_true] at ha0
        subst ha0
        clear hR hb hL h1 hn kN2
        generalize bt s.data.toList a = c at kN hq
        go_enter Tryz.func42, Tryz.ntmps42
        go_wp2_with (first
          | (go_at_call 40; (with_reducible refine (kN _ h).mono ?_); rintro e w1 ⟨rfl, q1, rfl⟩; have L1 := h.drewN q1; have A1 := (Aw.refl [g] w).drewN q1)
          | (go_at_call 39; (first | (with_reducible refine (kR _ L1).mono ?_) | refine (kR _ L1.at1).mono ?_); rintro e w2 ⟨rfl, h2, hA2⟩; obtain ⟨⟨d0, d1, d2⟩, g1, g2⟩ := h2.facts))
        all_goals
          go_quiet (fail)
          go_wp2_with fail
          go_ret
          first
          | exact ⟨rfl, h2.drewN _, (A1.trans hA2).drewN _⟩
          | exact ⟨rfl, h2.drewN _, ((A1.setCell (.inl (by simp)) _).trans hA2).drewN _⟩
    case false =>
      simp only [Bool.false_eq_true, if_false] at hR
      rw [isB_nx (by decide)] at hR
      have hlt := nx_lt (p := p1) hL (show (46 : Int) ≠ 0 by decide)
      cases hq2 : (bt s.data.toList p1 == 46)
      case false =>
        simp only [hq2, Bool.false_eq_true, if_false] at hR
        obtain ⟨rfl, rfl⟩ : p1 = b' ∧ false = n' := by injection hR with e1 e2; exact ⟨e1, e2⟩
        have hi1 : (a : Int) ≤ p1 := by omega
        have hi2 : (p1 : Int) ≤ s.size := by omega
        clear hlt
        generalize bt s.data.toList p1 = c2 at kN2 hq2
        cases hb : isB s.data.toList a false 45
        all_goals
          rw [hb] at hq ha0
          simp only [Bool.false_eq_true, if_false, if_true] at ha0
          subst ha0
          clear hR hb hL h1 hn
          generalize bt s.data.toList a = c at kN hq
          go_enter Tryz.func42, Tryz.ntmps42
          go_wp2_with (first
            | (go_at_call 40; (with_reducible refine (kN _ h).mono ?_); rintro e w1 ⟨rfl, q1, rfl⟩; have L1 := h.drewN q1; have A1 := (Aw.refl [g] w).drewN q1)
            | (go_at_call 39; (first | (with_reducible refine (kR _ L1).mono ?_) | refine (kR _ L1.at1).mono ?_); rintro e w2 ⟨rfl, h2, hA2⟩; obtain ⟨⟨d0, d1, d2⟩, g1, g2⟩ := h2.facts)
            | (go_at_call 40; (with_reducible refine (kN2 _ h2).mono ?_); rintro e w3 ⟨rfl, q3, rfl⟩; have L3 := h2.drewN q3))
          all_goals
            go_quiet (fail)
            go_wp2_with fail
            go_ret
            first
            | exact ⟨rfl, L3.drewN _, ((A1.trans hA2).drewN _).drewN _⟩
            | exact ⟨rfl, L3.drewN _, (((A1.setCell (.inl (by simp)) _).trans hA2).drewN _).drewN _⟩
      case true =>
        have hlt := hlt (by simpa using hq2)
        simp only [hq2, if_true] at hR
        have hl2 := someS_le s.data.toList digB (p1 + 1) false (by rw [hL]; omega)
        rw [hR, hL] at hl2
        simp only at hl2
        have kR2 := fun W h => run_dig g s (p1 + 1) false b' n' W h hlt hs hR
        have hi1 : (a : Int) ≤ b' := by omega
        have hi2 : (b' : Int) ≤ s.size := by omega
        generalize bt s.data.toList p1 = c2 at kN2 hq2
        cases hb : isB s.data.toList a false 45
        all_goals
          rw [hb] at hq ha0
          simp only [Bool.false_eq_true, if_false, if_true] at ha0
          subst ha0
          clear hR hb hL h1 hn
          generalize bt s.data.toList a = c at kN hq
          go_enter Tryz.func42, Tryz.ntmps42
          go_wp2_with (first
            | (go_at_call 40; (with_reducible refine (kN _ h).mono ?_); rintro e w1 ⟨rfl, q1, rfl⟩; have L1 := h.drewN q1; have A1 := (Aw.refl [g] w).drewN q1)
            | (go_at_call 39; (first | (with_reducible refine (kR _ L1).mono ?_) | refine (kR _ L1.at1).mono ?_); rintro e w2 ⟨rfl, h2, hA2⟩; obtain ⟨⟨d0, d1, d2⟩, g1, g2⟩ := h2.facts)
            | (go_at_call 40; (with_reducible refine (kN2 _ h2).mono ?_); rintro e w3 ⟨rfl, q3, rfl⟩; have L3 := h2.drewN q3; obtain ⟨⟨t0, t1, t2⟩, j1, j2⟩ := L3.facts)
            | (go_at_call 39; refine (kR2 _ L3.at1).mono ?_; rintro e w4 ⟨rfl, h4, hA4⟩; obtain ⟨⟨u0, u1, u2⟩, v1, v2⟩ := h4.facts))
          all_goals
            go_quiet (fail)
            go_wp2_with fail
            go_ret
            first
            | exact ⟨rfl, h4.drewN _, ((((A1.trans hA2).drewN _).setCell (.inl (by simp)) _).trans hA4).drewN _⟩
            | exact ⟨rfl, h4.drewN _, (((((A1.setCell (.inl (by simp)) _).trans hA2).drewN _).setCell (.inl (by simp)) _).trans hA4).drewN _⟩
/-- The reference's scanner, the row under way, its tags. -/
structure QX (w0 w : World) (g x : Nat) (s : ByteArray) (a : Nat) (no : Bool) (K : Nat) (nm : ByteArray) (off : Nat) (tv : Value) (tags : List MTag) (text : ByteArray) (pos : Nat) (timed : Bool) (time : ByteArray) (wh : Nat) : Prop where
  sr : Sr w g s a no
  rw_ : Rw w x K nm off tv text pos timed time wh
  tg : w.ownsRow w0.heap.size 86 4 tv tags.length (tags.flatMap tagCell)
  gl : g < w0.heap.size
  xl : w0.heap.size ≤ x
  aw : Aw [g] w0 w
section
variable {w0 w w' : World} {g x K : Nat} {s : ByteArray} {a a' : Nat} {no no' : Bool} {nm : ByteArray} {off : Nat} {tv tv' : Value} {tags : List MTag} {text : ByteArray} {pos : Nat} {timed : Bool} {time : ByteArray} {wh : Nat}
theorem QX.scan (h : QX w0 w g x s a no K nm off tv tags text pos timed time wh) (hs : Sr w' g s a' no') (k : Aw [g] w w') : QX w0 w' g x s a' no' K nm off tv tags text pos timed time wh :=
  ⟨hs, Blk.aw h.rw_ k (by have := h.gl; have := h.xl; simp; omega), own_aw h.tg k (fun i hi e => by have := h.gl; have := (h.tg.lt i hi).1; simp at e; omega), h.gl, h.xl, h.aw.trans k⟩
theorem QX.at1 (h : QX w0 w g x s a no K nm off tv tags text pos timed time wh) : QX w0 (w.setCell ⟨g, 1, none⟩ (.int .i64 ((a : Int) + 1))) g x s (a + 1) no K nm off tv tags text pos timed time wh :=
  h.scan h.sr.at1 ((Aw.refl _ _).setCell (.inl (by simp)) _)
theorem QX.fell (h : QX w0 w g x s a no K nm off tv tags text pos timed time wh) (b : Bool) : QX w0 (w.setCell ⟨g, 2, none⟩ (.bool b)) g x s a b K nm off tv tags text pos timed time wh :=
  h.scan (h.sr.no1 b) ((Aw.refl _ _).setCell (.inl (by simp)) _)
theorem QX.drewN (h : QX w0 w g x s a no K nm off tv tags text pos timed time wh) (n : Nat) : QX w0 (w.drewN n) g x s a no K nm off tv tags text pos timed time wh :=
  h.scan (h.sr.drewN n) ((Aw.refl _ _).drewN n)
theorem QX.drew (h : QX w0 w g x s a no K nm off tv tags text pos timed time wh) : QX w0 w.drew g x s a no K nm off tv tags text pos timed time wh :=
  h.scan h.sr.drew (Aw.refl _ _).drew
/-- Behind anything that turns blocks of the call's own that are none of these. -/
theorem QX.own {S : List Nat} (h : QX w0 w g x s a no K nm off tv tags text pos timed time wh) (k : Aw S w w') (hS : ∀ i, i ∈ S → w0.heap.size ≤ i ∧ i ≠ x ∧ tv.ownBlock ≠ some i) : QX w0 w' g x s a no K nm off tv tags text pos timed time wh :=
  ⟨h.sr.aw k (fun e => by have := h.gl; have := (hS _ e).1; omega), Blk.aw h.rw_ k (fun e => (hS _ e).2.1 rfl), own_aw h.tg k (fun i hi e => (hS _ e).2.2 hi), h.gl, h.xl, h.aw.own k (fun i hi => .inr (hS i hi).1)⟩
theorem QX.alloc (h : QX w0 w g x s a no K nm off tv tags text pos timed time wh) (o : Obj) : QX w0 (w.alloc o) g x s a no K nm off tv tags text pos timed time wh :=
  h.own (S := []) ((Aw.refl _ _).alloc o) (by simp)
/-- A cell of the row under way is written. -/
theorem QX.put {K' : Nat} {nm' : ByteArray} {off' : Nat} {text' : ByteArray} {pos' : Nat} {timed' : Bool} {time' : ByteArray} {wh' : Nat} (h : QX w0 w g x s a no K nm off tv tags text pos timed time wh) (i : Nat) (u : Value) (hu : Rw (w.setCell ⟨x, i, none⟩ u) x K' nm' off' tv text' pos' timed' time' wh') : QX w0 (w.setCell ⟨x, i, none⟩ u) g x s a no K' nm' off' tv tags text' pos' timed' time' wh' := by
  have hg := h.gl
  have hx := h.xl
  have k : Aw [x] w (w.setCell ⟨x, i, none⟩ u) := (Aw.refl _ _).setCell (.inl (by simp)) u
  exact ⟨h.sr.aw k (by simp; omega), hu, own_aw h.tg k (fun j hj e => by
      simp only [List.mem_cons, List.not_mem_nil, or_false] at e
      subst e; exact own_blk_ne h.tg h.rw_ (by decide) hj), h.gl, h.xl, h.aw.setCell (.inr hx) u⟩
theorem QX.name (h : QX w0 w g x s a no K nm off tv tags text pos timed time wh) (v : ByteArray) : QX w0 (w.setCell ⟨x, 1, none⟩ (.string v)) g x s a no K v off tv tags text pos timed time wh := h.put 1 _ (Blk.set_ h.rw_ 1 (.string v))
theorem QX.off_ (h : QX w0 w g x s a no K nm off tv tags text pos timed time wh) (v : Nat) : QX w0 (w.setCell ⟨x, 2, none⟩ (.int .i64 (v : Int))) g x s a no K nm v tv tags text pos timed time wh := h.put 2 _ (Blk.set_ h.rw_ 2 (.int .i64 (v : Int)))
theorem QX.text_ (h : QX w0 w g x s a no K nm off tv tags text pos timed time wh) (v : ByteArray) : QX w0 (w.setCell ⟨x, 5, none⟩ (.string v)) g x s a no K nm off tv tags v pos timed time wh := h.put 5 _ (Blk.set_ h.rw_ 5 (.string v))
theorem QX.pos_ (h : QX w0 w g x s a no K nm off tv tags text pos timed time wh) (v : Nat) : QX w0 (w.setCell ⟨x, 6, none⟩ (.int .i64 (v : Int))) g x s a no K nm off tv tags text v timed time wh := h.put 6 _ (Blk.set_ h.rw_ 6 (.int .i64 (v : Int)))
theorem QX.timed_ (h : QX w0 w g x s a no K nm off tv tags text pos timed time wh) (v : Bool) : QX w0 (w.setCell ⟨x, 7, none⟩ (.bool v)) g x s a no K nm off tv tags text pos v time wh := h.put 7 _ (Blk.set_ h.rw_ 7 (.bool v))
theorem QX.time_ (h : QX w0 w g x s a no K nm off tv tags text pos timed time wh) (v : ByteArray) : QX w0 (w.setCell ⟨x, 8, none⟩ (.string v)) g x s a no K nm off tv tags text pos timed v wh := h.put 8 _ (Blk.set_ h.rw_ 8 (.string v))
theorem QX.when_ (h : QX w0 w g x s a no K nm off tv tags text pos timed time wh) (v : Nat) : QX w0 (w.setCell ⟨x, 9, none⟩ (.int .i64 (v : Int))) g x s a no K nm off tv tags text pos timed time v := h.put 9 _ (Blk.set_ h.rw_ 9 (.int .i64 (v : Int)))
theorem QX.kind_ (h : QX w0 w g x s a no K nm off tv tags text pos timed time wh) (v : Nat) {u : Value} (hu : u = .int .i64 (v : Int)) : QX w0 (w.setCell ⟨x, 0, none⟩ u) g x s a no v nm off tv tags text pos timed time wh := by
  rw [hu]; exact h.put 0 _ (Blk.set_ h.rw_ 0 (.int .i64 (v : Int)))
/-- One more tag is put to those of the row. -/
theorem QX.tags_ (h : QX w0 w g x s a no K nm off tv tags text pos timed time wh) (k : Aw tv.ownBlock.toList w w') {t : MTag} (ho : w'.ownsRow w0.heap.size 86 4 tv' (tags.length + 1) (tags.flatMap tagCell ++ tagCell t)) : QX w0 (w'.setCell ⟨x, 3, none⟩ tv') g x s a no K nm off tv' (tags ++ [t]) text pos timed time wh := by
  have hg := h.gl
  have hx := h.xl
  have h1 : x ≠ g := by omega
  have hm : ∀ i, i ∈ tv.ownBlock.toList → w0.heap.size ≤ i := fun i hi => (h.tg.lt i (by simpa using hi)).1
  have hrw := Blk.aw h.rw_ k (fun e => own_blk_ne h.tg h.rw_ (by decide) (by simpa using e))
  have hsr : Sr w' g s a no := h.sr.aw k (fun e => by have := hm _ e; omega)
  have k2 : Aw [x] w' (w'.setCell ⟨x, 3, none⟩ tv') := (Aw.refl _ _).setCell (.inl (by simp)) tv'
  have ht : w'.ownsRow w0.heap.size 86 4 tv' (tags ++ [t]).length ((tags ++ [t]).flatMap tagCell) := by simpa using ho
  exact ⟨hsr.aw k2 (by simp; omega), Blk.set_ hrw 3 tv', own_aw ht k2 (fun j hj e => by
      simp only [List.mem_cons, List.not_mem_nil, or_false] at e
      subst e; exact own_blk_ne ht hrw (by decide) hj), h.gl, h.xl, (h.aw.own k (fun i hi => .inr (hm i hi))).setCell (.inr hx) _⟩
end
/-- A tag under way beside it. -/
structure QT (w0 w : World) (g x : Nat) (s : ByteArray) (a : Nat) (no : Bool) (K : Nat) (nm : ByteArray) (off : Nat) (tv : Value) (tags : List MTag) (text : ByteArray) (pos : Nat) (timed : Bool) (time : ByteArray) (wh : Nat) (t : Nat) (tn tl : ByteArray) (toff tpos : Nat) : Prop where
  l : QX w0 w g x s a no K nm off tv tags text pos timed time wh
  tt : Tg w t tn tl toff tpos
  tb : w0.heap.size ≤ t
  tx : t ≠ x
  t1 : tv.ownBlock ≠ some t
section
variable {w0 w w' : World} {g x K : Nat} {s : ByteArray} {a a' : Nat} {no no' : Bool} {nm : ByteArray} {off : Nat} {tv tv' : Value} {tags : List MTag} {text : ByteArray} {pos : Nat} {timed : Bool} {time : ByteArray} {wh : Nat} {t : Nat} {tn tl : ByteArray} {toff tpos : Nat}
theorem QT.new (h : QX w0 w g x s a no K nm off tv tags text pos timed time wh) (k : Nat) (hx : x < w.heap.size) : QT w0 (w.alloc (.cells #[.string ⟨#[]⟩, .string ⟨#[]⟩, .int .i64 (k : Int), .int .i64 0] 86)) g x s a no K nm off tv tags text pos timed time wh w.heap.size ⟨#[]⟩ ⟨#[]⟩ k 0 :=
  ⟨h.alloc _, Blk.new w _ _, h.aw.size, by omega, fun e => by have := (h.tg.lt _ e).2; omega⟩
theorem QT.scan (h : QT w0 w g x s a no K nm off tv tags text pos timed time wh t tn tl toff tpos) (hs : Sr w' g s a' no') (k : Aw [g] w w') : QT w0 w' g x s a' no' K nm off tv tags text pos timed time wh t tn tl toff tpos :=
  ⟨h.l.scan hs k, Blk.aw h.tt k (by have := h.l.gl; have := h.tb; simp; omega), h.tb, h.tx, h.t1⟩
theorem QT.put {tn' tl' : ByteArray} {toff' tpos' : Nat} (h : QT w0 w g x s a no K nm off tv tags text pos timed time wh t tn tl toff tpos) (i : Nat) (u : Value) (hu : Tg (w.setCell ⟨t, i, none⟩ u) t tn' tl' toff' tpos') : QT w0 (w.setCell ⟨t, i, none⟩ u) g x s a no K nm off tv tags text pos timed time wh t tn' tl' toff' tpos' :=
  ⟨h.l.own (S := [t]) ((Aw.refl _ _).setCell (.inl (by simp)) u) (fun i hi => by
    rw [List.mem_singleton] at hi; subst hi; exact ⟨h.tb, h.tx, h.t1⟩), hu, h.tb, h.tx, h.t1⟩
theorem QT.name (h : QT w0 w g x s a no K nm off tv tags text pos timed time wh t tn tl toff tpos) (v : ByteArray) : QT w0 (w.setCell ⟨t, 0, none⟩ (.string v)) g x s a no K nm off tv tags text pos timed time wh t v tl toff tpos := h.put 0 _ (Blk.set_ h.tt 0 (.string v))
theorem QT.val (h : QT w0 w g x s a no K nm off tv tags text pos timed time wh t tn tl toff tpos) (v : ByteArray) : QT w0 (w.setCell ⟨t, 1, none⟩ (.string v)) g x s a no K nm off tv tags text pos timed time wh t tn v toff tpos := h.put 1 _ (Blk.set_ h.tt 1 (.string v))
theorem QT.pos_ (h : QT w0 w g x s a no K nm off tv tags text pos timed time wh t tn tl toff tpos) (k : Nat) : QT w0 (w.setCell ⟨t, 3, none⟩ (.int .i64 (k : Int))) g x s a no K nm off tv tags text pos timed time wh t tn tl toff k := h.put 3 _ (Blk.set_ h.tt 3 (.int .i64 (k : Int)))
end
end
section
/-- What a row is told as. -/
def RowT (R : MRow) (no : Bool) (base : Nat) (v : Value) (w : World) : Prop :=
  ∃ x : VRow, v = .agg #[.int .i64 (x.row.kind : Int), .string x.row.name, .int .i64 (x.row.off : Int), .slice x.tA x.row.tags.length x.tc, .slice x.fA x.row.fields.length x.fc, .string x.row.text, .int .i64 (x.row.pos : Int), .bool x.row.timed, .string x.row.time, .int .i64 (x.row.when_ : Int)] ∧ OwnV w base x ∧ (no = false → x.row = R)
theorem rowT_mk {R : MRow} {no : Bool} {base : Nat} {w : World} {K : Nat} {nm : ByteArray} {off : Nat} {tA : Option Addr} {tags : List MTag} {tc : Nat} {text : ByteArray} {pos : Nat} {timed : Bool} {time : ByteArray} {wh : Nat}
    (ht : w.ownsRow base 86 4 (.slice tA tags.length tc) tags.length (tags.flatMap tagCell)) (hR : no = false → (⟨K, nm, off, tags, [], text, pos, timed, time, wh⟩ : MRow) = R) :
    RowT R no base (.agg #[.int .i64 (K : Int), .string nm, .int .i64 (off : Int), .slice tA tags.length tc, .slice none 0 0, .string text, .int .i64 (pos : Int), .bool timed, .string time, .int .i64 (wh : Int)]) w :=
  ⟨⟨⟨K, nm, off, tags, [], text, pos, timed, time, wh⟩, tA, tc, none, 0⟩, rfl, ⟨ht, World.ownsRow_nil _ _ _ _⟩, hR⟩
theorem Aw.ten' {w : World} {q : Nat} {p0 p1 p2 p3 p4 p5 p6 p7 p8 p9 : Addr} {u0 u1 u2 u3 u4 u5 u6 u7 u8 u9 : Value} (h0 : p0.block = q) (h1 : p1.block = q) (h2 : p2.block = q) (h3 : p3.block = q) (h4 : p4.block = q) (h5 : p5.block = q) (h6 : p6.block = q) (h7 : p7.block = q) (h8 : p8.block = q) (h9 : p9.block = q) :
    Aw [q] w ((((((((((w.setCell p0 u0).setCell p1 u1).setCell p2 u2).setCell p3 u3).setCell p4 u4).setCell p5 u5).setCell p6 u6).setCell p7 u7).setCell p8 u8).setCell p9 u9) :=
  ((((((((((Aw.refl _ _).setCell (.inl (by simp [h0])) _).setCell (.inl (by simp [h1])) _).setCell (.inl (by simp [h2])) _).setCell (.inl (by simp [h3])) _).setCell (.inl (by simp [h4])) _).setCell (.inl (by simp [h5])) _).setCell (.inl (by simp [h6])) _).setCell (.inl (by simp [h7])) _).setCell (.inl (by simp [h8])) _).setCell (.inl (by simp [h9])) _
/-- The row's cells are copied to the block of what is told. -/
theorem QX.fin {w w1 wx w' : World} {g q x K : Nat} {s : ByteArray} {a : Nat} {no : Bool} {nm : ByteArray} {off : Nat} {tA : Option Addr} {tags : List MTag} {tc : Nat} {text : ByteArray} {pos : Nat} {timed : Bool} {time : ByteArray} {wh : Nat} {R : MRow} {cs : Array Value}
    (h : QX w1 wx g x s a no K nm off (.slice tA tags.length tc) tags text pos timed time wh) (hw : Aw [] w w1) (hq : Blk w1 q 74 cs) (hq2 : w.heap.size ≤ q) (hg : g < w.heap.size) (k : Aw [q] wx w') (hR : no = false → (⟨K, nm, off, tags, [], text, pos, timed, time, wh⟩ : MRow) = R) :
    RowT R no w.heap.size (.agg #[.int .i64 (K : Int), .string nm, .int .i64 (off : Int), .slice tA tags.length tc, .slice none 0 0, .string text, .int .i64 (pos : Int), .bool timed, .string time, .int .i64 (wh : Int)]) w' ∧ Sr w' g s a no ∧ Aw [g] w w' := by
  have hqq : Blk wx q 74 cs := Blk.aw hq h.aw (by simp; omega)
  refine ⟨rowT_mk (own_more (own_aw h.tg k (fun j hj e => by
      simp only [List.mem_cons, List.not_mem_nil, or_false] at e
      subst e; exact own_blk_ne h.tg hqq (by decide) hj)) hw.size) hR, h.sr.aw k (by simp; omega), ?_⟩
  exact (((hw.mono (by simp)).trans h.aw).own k (fun i hi => by simp at hi; subst hi; exact .inr hq2))
theorem in4_any (c : Int) (w : World) (h0 : 0 ≤ c) (h1 : c ≤ 255) : Calls Tryz.prog 80 #[.int .u8 c, .int .i64 4] w fun e w' => e = .returned (.bool (dtNode c)) ∧ w' = w := by
  go_enter Tryz.func80, Tryz.ntmps80
  go_wp2_with fail
  all_goals go_ret
  all_goals refine ⟨ret_bool (bcl ?_), rfl⟩
  all_goals (simp [dtNode, letB, digB] <;> omega)
theorem dtInk_vis (c : Int) : dtInk c = (visB c && !hasB (⟨#[59]⟩ : ByteArray).data.toList c) := by
  apply bcl; simp [dtInk, visB, hasB]; omega
theorem dtNode_dot (c : Int) : dtNode c = (dtNode c && !hasB (⟨#[]⟩ : ByteArray).data.toList c) := by
  simp [hasB]
theorem run_dash (g : Nat) (s : ByteArray) (a : Nat) (no : Bool) (b' : Nat) (n' : Bool) (w : World) (h : Sr w g s a no) (ha : a ≤ s.size) (hs : s.size ≤ 1048576) (hR : someS s.data.toList dtNode a no = (b', n')) :
    Calls Tryz.prog 39 #[.pointer (some ⟨g, 0, none⟩), .int .i64 4, .string ⟨#[]⟩, .bool false] w fun e w' => e = .returned (.string (mkS (cutL s.data.toList a b'))) ∧ Sr w' g s b' n' ∧ Aw [g] w w' := by
  have k := run_cls 4 ⟨#[]⟩ dtNode dtNode dtNode_dot (by decide) in4_any g s a no b' n' w h ha hs hR
  rw [ext_cut] at k
  exact k
theorem run_vis (g : Nat) (s : ByteArray) (a : Nat) (no : Bool) (b' : Nat) (n' : Bool) (w : World) (h : Sr w g s a no) (ha : a ≤ s.size) (hs : s.size ≤ 1048576) (hR : someS s.data.toList dtInk a no = (b', n')) :
    Calls Tryz.prog 39 #[.pointer (some ⟨g, 0, none⟩), .int .i64 6, .string ⟨#[59]⟩, .bool false] w fun e w' => e = .returned (.string (mkS (cutL s.data.toList a b'))) ∧ Sr w' g s b' n' ∧ Aw [g] w w' := by
  have k := run_cls 6 ⟨#[59]⟩ dtInk visB dtInk_vis (by decide) in6_any g s a no b' n' w h ha hs hR
  rw [ext_cut] at k
  exact k
end
section
set_option maxRecDepth 100000 in
set_option maxHeartbeats 12800000 in
theorem line24_any (g : Nat) (s : ByteArray) (a : Nat) (R : MRow) (a' : Nat) (no' : Bool) (w : World) (h : Sr w g s a false) (ha : a ≤ s.size) (hs : s.size ≤ 1048576) (hR : dotLineS s.data.toList a = (R, a', no')) :
    Calls Tryz.prog 22 #[.pointer (some ⟨g, 0, none⟩)] w fun e w' => ∃ v, e = .returned v ∧ RowT R no' w.heap.size v w' ∧ Sr w' g s a' no' ∧ Aw [g] w w' := by
  have hL : s.data.toList.length = s.size := by simp
  have hs2 : s.size ≤ 4611686018427387904 := Nat.le_trans hs (by decide)
  have hg := h.lt
  obtain ⟨b1, m1, hb⟩ : ∃ b1 m1, someS s.data.toList dtNode a false = (b1, m1) := ⟨_, _, rfl⟩
  obtain ⟨a1, n1, h1⟩ : ∃ a1 n1, dPathS s.data.toList a = (a1, n1) := ⟨_, _, rfl⟩
  obtain ⟨T, a2, n2, h2⟩ : ∃ T a2 n2, dTagsGo s.data.toList (s.data.toList.length + 1) a1 n1 [] = (T, a2, n2) := ⟨_, _, _, rfl⟩
  obtain ⟨a3, n3, h3⟩ : ∃ a3 n3, wordS s.data.toList [32] a2 n2 = (a3, n3) := ⟨_, _, rfl⟩
  obtain ⟨a4, n4, h4⟩ : ∃ a4 n4, decS s.data.toList a3 n3 = (a4, n4) := ⟨_, _, rfl⟩
  obtain ⟨a5, n5, h5⟩ : ∃ a5 n5, wordS s.data.toList [32] a4 n4 = (a5, n5) := ⟨_, _, rfl⟩
  obtain ⟨a6, n6, h6⟩ : ∃ a6 n6, numS s.data.toList a5 n5 = (a6, n6) := ⟨_, _, rfl⟩
  have hlb := someS_le s.data.toList dtNode a false (by rw [hL]; omega)
  rw [hb, hL] at hlb
  have hl1 := dPathS_le (l := s.data.toList) (a := a) (by rw [hL]; omega)
  rw [h1, hL] at hl1
  have hl2 := dTagsGo_le (l := s.data.toList) (s.data.toList.length + 1) a1 n1 [] (by rw [hL]; exact hl1.2)
  rw [h2, hL] at hl2
  have hl3 := wordS_le s.data.toList [32] a2 n2 (by rw [hL]; exact hl2.2)
  rw [h3, hL] at hl3
  have hl4 := decS_le s.data.toList a3 n3 (by rw [hL]; exact hl3.2)
  rw [h4, hL] at hl4
  have hl5 := wordS_le s.data.toList [32] a4 n4 (by rw [hL]; exact hl4.2)
  rw [h5, hL] at hl5
  have hl6 := numS_le s.data.toList a5 n5 (by rw [hL]; exact hl5.2)
  rw [h6, hL] at hl6
  simp only at hlb hl1 hl2 hl3 hl4 hl5 hl6
  unfold dotLineS at hR
  simp only [h1, h2, h3, h4, h5, h6] at hR
  obtain ⟨hRow, h7⟩ : _ ∧ wordS s.data.toList [10] a6 n6 = (a', no') := by injection hR with e1 e2; exact ⟨e1, e2⟩
  have kb := fun W h => run_dash g s a false b1 m1 W h ha hs hb
  have k3 := fun W h => lit_any g s ⟨#[32]⟩ a2 n2 a3 n3 W h hl2.2 hs (by decide) h3
  have k4 := fun W h => number_dec g s a3 n3 a4 n4 W h hl3.2 hs h4
  have k5 := fun W h => lit_any g s ⟨#[32]⟩ a4 n4 a5 n5 W h hl4.2 hs (by decide) h5
  have k6 := fun W h => number_ref g s a5 n5 a6 n6 W h hl5.2 hs h6
  have k7 := fun W h => lit_any g s ⟨#[10]⟩ a6 n6 a' no' W h hl6.2 hs (by decide) h7
  have hP : dRestS s.data.toList (s.data.toList.length + 1) b1 m1 = (a1, n1) := by rw [← h1]; unfold dPathS; rw [hb]
  have H1 := Lib.hid hP
  have H2 := Lib.hid h2
  have HRow := Lib.hid hRow
  have HL := Lib.hid hL
  have H3 := Lib.hid (And.intro h3 (And.intro h4 (And.intro h5 (And.intro h6 h7))))
  generalize hV1 : mkS (cutL s.data.toList a a1) = V1 at HRow
  generalize mkS (cutL s.data.toList a3 a4) = V5 at k4 HRow
  generalize mkS (cutL s.data.toList a5 a6) = V8 at k6 HRow
  have HV1 := Lib.hid hV1
  clear hb h1 h2 h3 h4 h5 h6 h7 hR hRow hL hP hV1
  have hAw1 : Aw [] w (w.alloc (.cells #[.int .i64 0, .string ⟨#[]⟩, .int .i64 0, .slice none 0 0, .slice none 0 0, .string ⟨#[]⟩, .int .i64 0, .bool false, .string ⟨#[]⟩, .int .i64 0] 74)) := (Aw.refl _ _).alloc _
  have hQ0 := Blk.new w 74 #[.int .i64 0, .string ⟨#[]⟩, .int .i64 0, .slice none 0 0, .slice none 0 0, .string ⟨#[]⟩, .int .i64 0, .bool false, .string ⟨#[]⟩, .int .i64 0]
  have hs1 := h.alloc (.cells #[.int .i64 0, .string ⟨#[]⟩, .int .i64 0, .slice none 0 0, .slice none 0 0, .string ⟨#[]⟩, .int .i64 0, .bool false, .string ⟨#[]⟩, .int .i64 0] 74)
  go_enter Tryz.func22, Tryz.ntmps22
  go_upto_region 1 with fail
  generalize hw1 : w.alloc (.cells #[.int .i64 0, .string ⟨#[]⟩, .int .i64 0, .slice none 0 0, .slice none 0 0, .string ⟨#[]⟩, .int .i64 0, .bool false, .string ⟨#[]⟩, .int .i64 0] 74) = w1 at hAw1 hQ0 hs1 ⊢
  generalize hq0 : w.heap.size = q at hQ0 ⊢
  clear hw1
  obtain ⟨⟨c0, c1, c2⟩, f1, f2⟩ := hs1.facts
  have hq1 : q < w1.heap.size := Blk.lt hQ0
  have hqg : q ∉ [g] := by simp; omega
  have L1 : QX w1 (w1.alloc (.cells #[.int .i64 0, .string ⟨#[]⟩, .int .i64 (a : Int), .slice none 0 0, .slice none 0 0, .string ⟨#[]⟩, .int .i64 0, .bool true, .string ⟨#[]⟩, .int .i64 0] 74)) g w1.heap.size s a false 0 ⟨#[]⟩ a (.slice none 0 0) [] ⟨#[]⟩ 0 true ⟨#[]⟩ 0 :=
    ⟨hs1.alloc _, by
      have := Blk.new w1 74 #[.int .i64 0, .string ⟨#[]⟩, .int .i64 (a : Int), .slice none 0 0, .slice none 0 0, .string ⟨#[]⟩, .int .i64 0, .bool true, .string ⟨#[]⟩, .int .i64 0]
      simpa [Rw] using this, World.ownsRow_nil _ _ _ _, hs1.lt, Nat.le_refl _, (Aw.refl _ _).alloc _⟩
  go_wp2_with (go_at_call 39; (with_reducible refine (kb _ L1.sr).mono ?_); rintro e w4 ⟨rfl, h4, hA4⟩; have L4 := L1.scan h4 hA4)
  clear L1 h4 hA4 kb c0 c1 c2 f1 f2
  generalize w1.heap.size = x at *
  go_loopw [21] (fun _ wr => ∃ (p f : Nat) (np : Bool), p ≤ s.size ∧ s.size < f + p ∧ QX w1 wr g x s p np 0 ⟨#[]⟩ a (.slice none 0 0) [] ⟨#[]⟩ 0 true ⟨#[]⟩ 0 ∧ Hid (dRestS s.data.toList f p np = (a1, n1))) (fun _ wr => s.size - atOf wr g)
  case atStart => exact ⟨b1, _, m1, hlb.2, by (have := HL.out; omega), L4, H1⟩
  case round =>
    clear L4 H1
    obtain ⟨p, f, np, hp, hf, hX, HT⟩ := hrel
    obtain ⟨f, rfl⟩ : ∃ f', f = f' + 1 := ⟨f - 1, by omega⟩
    have hat := hX.sr.atOf
    have hT := HT.out
    rw [dRestS] at hT
    clear HT
    have kN := fun W h => next_any g s p false W h hs2 hp
    go_upto_region 3 with (fail)
    go_cut [21] from 12 to 21 (fun v wx => v = .bool (isB s.data.toList p np 46) ∧ QX w1 wx g x s p np 0 ⟨#[]⟩ a (.slice none 0 0) [] ⟨#[]⟩ 0 true ⟨#[]⟩ 0)
    case first =>
      obtain ⟨⟨c0, c1, c2⟩, f1, f2⟩ := hX.sr.facts
      cases np
      case true =>
        go_wp2_with fail
        go_meet
        exact ⟨rfl, hX⟩
      case false =>
        obtain ⟨C, hC⟩ : ∃ C, bt s.data.toList p = C := ⟨_, rfl⟩
        have HC := Lib.hid hC
        rw [hC] at kN
        clear hC
        go_wp2_with (go_at_call 40; (with_reducible refine (kN _ hX.sr).mono ?_); rintro e w5 ⟨rfl, q1, rfl⟩; have L5 := hX.drewN q1)
        go_meet
        exact ⟨congrArg Value.bool (by rw [isB_nx (by decide), HC.out]), L5⟩
    case rest =>
      obtain ⟨rfl, hY⟩ := hcut
      cases hq : isB s.data.toList p np 46
      case true =>
        rw [hq, if_pos rfl] at hT
        obtain ⟨hlt, hnp, _⟩ := isB_lt hq
        rw [HL.out] at hlt
        subst hnp
        obtain ⟨b, mm, hbm⟩ : ∃ b mm, someS s.data.toList dtNode (p + 1) false = (b, mm) := ⟨_, _, rfl⟩
        have hle := someS_le s.data.toList dtNode (p + 1) false (by rw [HL.out]; omega)
        rw [hbm, HL.out] at hle
        rw [hbm] at hT
        simp only at hle hT
        have kr := fun W h => run_dash g s (p + 1) false b mm W h (by omega) hs hbm
        have HT := Lib.hid hT
        clear hT hbm hq kN hX
        obtain ⟨⟨c0, c1, c2⟩, f1, f2⟩ := hY.sr.facts
        have L6 := hY.at1
        go_wp2_with (go_at_call 39; (with_reducible refine (kr _ L6.sr).mono ?_); rintro e w7 ⟨rfl, h7, hA7⟩; have L7 := L6.scan h7 hA7)
        exact ⟨⟨b, f, mm, hle.2, by omega, L7, HT⟩, by rw [L7.sr.atOf, hat]; omega⟩
      case false =>
        rw [hq, if_neg (by decide)] at hT
        obtain ⟨rfl, rfl⟩ : p = a1 ∧ np = n1 := by injection hT with e1 e2; exact ⟨e1, e2⟩
        clear hT hq kN hX hat hf
        obtain ⟨⟨c0, c1, c2⟩, f1, f2⟩ := hY.sr.facts
        obtain ⟨⟨r0, r1, r2, _⟩, _, g1, _⟩ := hY.rw_.facts
        go_upto_region 6 with fail
        go_cut [] from 31 to 42 (fun wx => QX w1 wx g x s p np 0 V1 a (.slice none 0 0) [] ⟨#[]⟩ 0 true ⟨#[]⟩ 0)
        case first =>
          have hi0 : (0 : Int) ≤ (a : Int) := by omega
          have hi1 : (a : Int) ≤ (p : Int) := by omega
          have hi2 : (p : Int) ≤ (s.size : Int) := by omega
          have L7 := hY.drew.name (s.extract a p)
          have L7' : ∀ W, QX w1 W g x s p np 0 (s.extract a p) a (.slice none 0 0) [] ⟨#[]⟩ 0 true ⟨#[]⟩ 0 → QX w1 W g x s p np 0 V1 a (.slice none 0 0) [] ⟨#[]⟩ 0 true ⟨#[]⟩ 0 := fun W h => by rw [ext_cut, HV1.out] at h; exact h
          go_region
          all_goals
            go_wp2_with fail
            go_meet
            exact L7' _ L7
        case rest =>
          have hZ := hcut
          clear hY c0 c1 c2 f1 f2 r0 r1 r2 g1 HV1
          go_wp2_with fail
          obtain ⟨i0, hi0, hz0, hz1, hz2⟩ := info_parts Tryz.infoTag
          have hut : Tryz.prog.underlying 71 = some (.slice 86) := by kernel_rfl
          go_loopw [52] (fun _ wr => ∃ (p f : Nat) (np : Bool) (acc : List MTag) (tv : Value), p ≤ s.size ∧ s.size < f + p ∧ acc.length ≤ p ∧ QX w1 wr g x s p np 0 V1 a tv acc ⟨#[]⟩ 0 true ⟨#[]⟩ 0 ∧ Hid (dTagsGo s.data.toList f p np acc = (T, a2, n2))) (fun _ wr => s.size - atOf wr g)
          case atStart => exact ⟨p, _, np, [], _, by omega, (by have := HL.out; omega), by simp, hZ, H2⟩
          case round =>
            clear hZ H2
            obtain ⟨p, f, np, acc, tv, hp, hf, hacc, hX, HT⟩ := hrel
            obtain ⟨f, rfl⟩ : ∃ f', f = f' + 1 := ⟨f - 1, by omega⟩
            have hat := hX.sr.atOf
            have hT := HT.out
            rw [dTagsGo] at hT
            clear HT
            have kN := fun W h => next_any g s p false W h hs2 hp
            go_upto_region 7 with (fail)
            go_cut [52] from 43 to 52 (fun v wx => v = .bool (isB s.data.toList p np 59) ∧ QX w1 wx g x s p np 0 V1 a tv acc ⟨#[]⟩ 0 true ⟨#[]⟩ 0)
            case first =>
              obtain ⟨⟨c0, c1, c2⟩, f1, f2⟩ := hX.sr.facts
              cases np
              case true =>
                go_wp2_with fail
                go_meet
                exact ⟨rfl, hX⟩
              case false =>
                obtain ⟨C, hC⟩ : ∃ C, bt s.data.toList p = C := ⟨_, rfl⟩
                have HC := Lib.hid hC
                rw [hC] at kN
                clear hC
                go_wp2_with (go_at_call 40; (with_reducible refine (kN _ hX.sr).mono ?_); rintro e w5 ⟨rfl, q1, rfl⟩; have L5 := hX.drewN q1)
                go_meet
                exact ⟨congrArg Value.bool (by rw [isB_nx (by decide), HC.out]), L5⟩
            case rest =>
              obtain ⟨rfl, hY⟩ := hcut
              cases hq : isB s.data.toList p np 59
              case true =>
                rw [hq, if_pos rfl] at hT
                obtain ⟨hlt, hnp, _⟩ := isB_lt hq
                rw [HL.out] at hlt
                subst hnp
                obtain ⟨b1', m1', e1⟩ : ∃ b1 m1, someS s.data.toList dtNode (p + 1) false = (b1, m1) := ⟨_, _, rfl⟩
                obtain ⟨b2, m2, e2⟩ : ∃ b2 m2, wordS s.data.toList [61] b1' m1' = (b2, m2) := ⟨_, _, rfl⟩
                obtain ⟨b3, m3, e3⟩ : ∃ b3 m3, someS s.data.toList dtInk b2 m2 = (b3, m3) := ⟨_, _, rfl⟩
                have hb1 := someS_le s.data.toList dtNode (p + 1) false (by rw [HL.out]; omega)
                rw [e1, HL.out] at hb1
                have hb2 := wordS_le s.data.toList [61] b1' m1' (by rw [HL.out]; exact hb1.2)
                rw [e2, HL.out] at hb2
                have hb3 := someS_le s.data.toList dtInk b2 m2 (by rw [HL.out]; exact hb2.2)
                rw [e3, HL.out] at hb3
                simp only at hb1 hb2 hb3
                unfold dTagS at hT
                simp only [e1, e2, e3] at hT
                have k1 := fun W h => run_dash g s (p + 1) false b1' m1' W h (by omega) hs e1
                have k2 := fun W h => lit_any g s ⟨#[61]⟩ b1' m1' b2 m2 W h hb1.2 hs (by decide) e2
                have k3' := fun W h => run_vis g s b2 m2 b3 m3 W h hb2.2 hs e3
                generalize mkS (cutL s.data.toList (p + 1) b1') = Vk at k1 hT
                generalize mkS (cutL s.data.toList b2 b3) = Vv at k3' hT
                have HT := Lib.hid hT
                clear e1 e2 e3 hT hq kN hX
                obtain ⟨⟨c0, c1, c2⟩, f1, f2⟩ := hY.sr.facts
                have L1 := hY.at1
                have hxl := L1.rw_.lt
                go_upto_region 9 with (fail)
                revert L1
                generalize World.setCell _ _ _ = W5
                intro L1
                clear c0 c1 c2 f1 f2 hY
                obtain ⟨p1, hp1⟩ : ∃ p1, p1 = p + 1 := ⟨_, rfl⟩
                rw [← hp1] at L1 HT k1 hb1
                have hp2 : p < p1 := by omega
                have hp3 : p1 ≤ s.size := by omega
                clear hp1
                obtain ⟨⟨c0, c1, c2⟩, f1, f2⟩ := L1.sr.facts
                have hxl := L1.rw_.lt
                have L3 := QT.new L1 p1 hxl
                go_upto_region 14 with (first
                  | (go_at_call 39; (with_reducible refine (k1 _ L3.l.sr).mono ?_); rintro e w4 ⟨rfl, h4, hA4⟩; have L4 := L3.scan h4 hA4; obtain ⟨_, x0, x1, x2, x3⟩ := L4.tt.facts; have L5 := L4.name Vk)
                  | (go_at_call 41; (with_reducible refine (k2 _ L5.l.sr).mono ?_); rintro e w6 ⟨rfl, h6, hA6⟩; have L6 := L5.scan h6 hA6; obtain ⟨⟨_, y1, _⟩, _⟩ := L6.l.sr.facts; obtain ⟨_, x0, x1, x2, x3⟩ := L6.tt.facts; have L7 := L6.pos_ b2)
                  | (go_at_call 39; (with_reducible refine (k3' _ L7.l.sr).mono ?_); rintro e w8 ⟨rfl, h8, hA8⟩; have L8 := L7.scan h8 hA8; obtain ⟨_, x0, x1, x2, x3⟩ := L8.tt.facts; have L10 := L8.val Vv))
                revert L10
                generalize World.setCell w8 _ _ = w10
                intro L10
                clear L8 L7 L6 L5 L4 L3 L1 k1 k2 k3' x0 x1 x2 x3 y1 h4 h6 h8 hA4 hA6 hA8 c0 c1 c2 f1 f2
                obtain ⟨⟨z0, z1, z2, z3⟩, _⟩ := L10.tt.facts
                obtain ⟨⟨_, _, _, v3, _⟩, _, _, _, r3, _⟩ := L10.l.rw_.facts
                have htg := L10.l.tg
                go_wp2_with (at_builtin; go_loud (refine wpList_append_lies _ (by rfl) _ _ _ (by rfl) w1.heap.size 86 i0 _ 4 48 hut hi0 hz0 hz1 hz2 rfl (by omega) tv acc.length (acc.flatMap tagCell) (by rfl) (htg.alloc _) ⟨w10.heap.size, 0, none⟩ 1 1 (tagCell ⟨Vk, Vv, p1, b2⟩) (by rfl) (by rfl) (World.news_of_block (heap_alloc_new w10 _)) (by simp [tagCell, Value.oneCell']) (by omega) (by simp [maxLen]; omega) (by omega) (by have := L10.l.aw.size; simp; omega) (w10.heap.size + 1) (by simp) ?_); intro gg capg w11 hown11 hgrow hat11 hlt11; obtain ⟨_, _, _, _, r5, _⟩ := Rw.facts (Blk.grown (w := _) (Blk.alloc L10.l.rw_ _) hgrow (fun e => own_blk_ne L10.l.tg L10.l.rw_ (by decide) e.symm)); have L11 := L10.l.tags_ (((Aw.refl _ _).alloc _).grown hgrow (fun k hk => .inl (by simp [hk]))) hown11)
                exact ⟨⟨b3, f, m3, acc ++ [⟨Vk, Vv, p1, b2⟩], _, hb3.2, by omega, by simp; omega, L11, HT⟩, by rw [L11.sr.atOf, hat]; omega⟩
              case false =>
                rw [hq, if_neg (by decide)] at hT
                obtain ⟨rfl, rfl, rfl⟩ : acc = T ∧ p = a2 ∧ np = n2 := by injection hT with e1 e2; injection e2 with e3 e4; exact ⟨e1, e3, e4⟩
                clear hT hq kN hX hat hf
                obtain ⟨h3, h4, h5, h6, h7⟩ := H3.out
                obtain ⟨tA, tc, rfl⟩ := own_form hY.tg
                obtain ⟨⟨c0, c1, c2⟩, f1, f2⟩ := hY.sr.facts
                obtain ⟨_, r0, r1, r2, r3, r4, r5, r6, r7, r8, r9⟩ := hY.rw_.facts
                have HH := Lib.hid (And.intro h4 (And.intro h5 (And.intro h6 h7)))
                clear h3 h4 h5 h6 h7 H3
                go_upto_region 17 with (go_at_call 41; (with_reducible refine (k3 _ hY.sr).mono ?_); rintro e w12 ⟨rfl, h12, hA12⟩; have L12 := hY.scan h12 hA12; obtain ⟨⟨y0, y1, y2⟩, _⟩ := L12.sr.facts; obtain ⟨_, r0, r1, r2, r3, r4, r5, r6, r7, r8, r9⟩ := L12.rw_.facts; have L13 := L12.pos_ a3)
                revert L13
                generalize World.setCell _ _ _ = W13
                intro L13
                clear L12 h12 hA12 y0 y1 y2 r0 r1 r2 r3 r4 r5 r6 r7 r8 r9 c0 c1 c2 f1 f2 hY k3
                obtain ⟨⟨c0, c1, c2⟩, f1, f2⟩ := L13.sr.facts
                obtain ⟨_, r0, r1, r2, r3, r4, r5, r6, r7, r8, r9⟩ := L13.rw_.facts
                obtain ⟨h4, h5, h6, h7⟩ := HH.out
                cases n3
                case true =>
                  rw [dec_noG] at h4
                  obtain ⟨rfl, rfl⟩ : a3 = a4 ∧ true = n4 := by injection h4 with e1 e2; exact ⟨e1, e2⟩
                  rw [wordS_no] at h5
                  obtain ⟨rfl, rfl⟩ : a3 = a5 ∧ true = n5 := by injection h5 with e1 e2; exact ⟨e1, e2⟩
                  rw [num_noG] at h6
                  obtain ⟨rfl, rfl⟩ : a3 = a6 ∧ true = n6 := by injection h6 with e1 e2; exact ⟨e1, e2⟩
                  rw [wordS_no] at h7
                  obtain ⟨rfl, rfl⟩ : a3 = a' ∧ true = no' := by injection h7 with e1 e2; exact ⟨e1, e2⟩
                  clear h4 h5 h6 h7 HH HRow k4 k6
                  go_wp2_with (first
                    | (go_at_call 41; (with_reducible refine (k5 _ L13.sr).mono ?_); rintro e w14 ⟨rfl, hw14, hAw14⟩; have L14 := L13.scan hw14 hAw14; obtain ⟨⟨y0, y1, y2⟩, _⟩ := L14.sr.facts; obtain ⟨_, r0, r1, r2, r3, r4, r5, r6, r7, r8, r9⟩ := L14.rw_.facts; have L15 := L14.when_ a3; have z15 := L15.sr.facts; obtain ⟨_, t0, t1, t2, t3, t4, t5, t6, t7, t8, t9⟩ := L15.rw_.facts)
                    | (go_at_call 41; (with_reducible refine (k7 _ L15.sr).mono ?_); rintro e w16 ⟨rfl, hw16, hAw16⟩; have LZ := L15.scan hw16 hAw16; obtain ⟨⟨y0, y1, y2⟩, _⟩ := LZ.sr.facts; obtain ⟨_, r0, r1, r2, r3, r4, r5, r6, r7, r8, r9⟩ := LZ.rw_.facts; obtain ⟨⟨d0, d1, d2, d3, d4, d5, d6, d7, d8, d9⟩, _⟩ := LZ.rw_.facts; obtain ⟨⟨e0, e1, e2, e3, e4, e5, e6, e7, e8, e9⟩, v0, v1, v2, v3, v4, v5, v6, v7, v8, v9⟩ := Rw.facts (Blk.aw hQ0 LZ.aw hqg)))
                  refine bodyPost_ret (v := .agg #[.int .i64 ((0 : Nat) : Int), .string V1, .int .i64 (a : Int), .slice tA acc.length tc, .slice none 0 0, .string ⟨#[]⟩, .int .i64 (a3 : Int), .bool true, .string ⟨#[]⟩, .int .i64 (a3 : Int)]) (by simp [results, Tryz.results22, go_sem, e0, e1, e2, e3, e4, e5, e6, e7, e8, e9]) rfl ⟨_, rfl, LZ.fin hAw1 hQ0 (by omega) hg ?_ (fun e => by cases e)⟩
                  exact Aw.ten' rfl rfl rfl rfl rfl rfl rfl rfl rfl rfl

                case false =>
                  clear h4 h5
                  have H67 := Lib.hid (And.intro h6 h7)
                  clear h6 h7 HH
                  go_upto_region 21 with (first
                    | (go_at_call 42; (with_reducible refine (k4 _ L13.sr).mono ?_); rintro e w14 ⟨rfl, hw14, hAw14⟩; have L14 := L13.scan hw14 hAw14; obtain ⟨⟨y0, y1, y2⟩, _⟩ := L14.sr.facts; obtain ⟨_, r0, r1, r2, r3, r4, r5, r6, r7, r8, r9⟩ := L14.rw_.facts; have L15 := L14.text_ V5; obtain ⟨_, t0, t1, t2, t3, t4, t5, t6, t7, t8, t9⟩ := L15.rw_.facts)
                    | (go_at_call 41; (with_reducible refine (k5 _ L15.sr).mono ?_); rintro e w16 ⟨rfl, hw16, hAw16⟩; have L16 := L15.scan hw16 hAw16; obtain ⟨⟨y0, y1, y2⟩, _⟩ := L16.sr.facts; obtain ⟨_, r0, r1, r2, r3, r4, r5, r6, r7, r8, r9⟩ := L16.rw_.facts; have L17 := L16.when_ a5))
                  revert L17
                  generalize World.setCell _ _ _ = W17
                  intro L17
                  clear L16 L15 L14 L13 hw14 hAw14 hw16 hAw16 y0 y1 y2 r0 r1 r2 r3 r4 r5 r6 r7 r8 r9 t0 t1 t2 t3 t4 t5 t6 t7 t8 t9 c0 c1 c2 f1 f2 k4 k5
                  obtain ⟨⟨c0, c1, c2⟩, f1, f2⟩ := L17.sr.facts
                  obtain ⟨_, r0, r1, r2, r3, r4, r5, r6, r7, r8, r9⟩ := L17.rw_.facts
                  obtain ⟨h6, h7⟩ := H67.out
                  cases n5
                  case true =>
                    rw [num_noG] at h6
                    obtain ⟨rfl, rfl⟩ : a5 = a6 ∧ true = n6 := by injection h6 with e1 e2; exact ⟨e1, e2⟩
                    rw [wordS_no] at h7
                    obtain ⟨rfl, rfl⟩ : a5 = a' ∧ true = no' := by injection h7 with e1 e2; exact ⟨e1, e2⟩
                    clear h6 h7 H67 HRow k6
                    go_wp2_with (go_at_call 41; (with_reducible refine (k7 _ L17.sr).mono ?_); rintro e w18 ⟨rfl, hw18, hAw18⟩; have LZ := L17.scan hw18 hAw18; obtain ⟨⟨y0, y1, y2⟩, _⟩ := LZ.sr.facts; obtain ⟨_, r0, r1, r2, r3, r4, r5, r6, r7, r8, r9⟩ := LZ.rw_.facts; obtain ⟨⟨d0, d1, d2, d3, d4, d5, d6, d7, d8, d9⟩, _⟩ := LZ.rw_.facts; obtain ⟨⟨e0, e1, e2, e3, e4, e5, e6, e7, e8, e9⟩, v0, v1, v2, v3, v4, v5, v6, v7, v8, v9⟩ := Rw.facts (Blk.aw hQ0 LZ.aw hqg))
                    refine bodyPost_ret (v := .agg #[.int .i64 ((0 : Nat) : Int), .string V1, .int .i64 (a : Int), .slice tA acc.length tc, .slice none 0 0, .string V5, .int .i64 (a3 : Int), .bool true, .string ⟨#[]⟩, .int .i64 (a5 : Int)]) (by simp [results, Tryz.results22, go_sem, e0, e1, e2, e3, e4, e5, e6, e7, e8, e9]) rfl ⟨_, rfl, LZ.fin hAw1 hQ0 (by omega) hg ?_ (fun e => by cases e)⟩
                    exact Aw.ten' rfl rfl rfl rfl rfl rfl rfl rfl rfl rfl
                  case false =>
                    clear h6 h7 H67
                    go_wp2_with (first
                      | (go_at_call 42; (with_reducible refine (k6 _ L17.sr).mono ?_); rintro e w18 ⟨rfl, hw18, hAw18⟩; have L18 := L17.scan hw18 hAw18; obtain ⟨⟨y0, y1, y2⟩, _⟩ := L18.sr.facts; obtain ⟨_, r0, r1, r2, r3, r4, r5, r6, r7, r8, r9⟩ := L18.rw_.facts; have L19 := L18.time_ V8; obtain ⟨_, t0, t1, t2, t3, t4, t5, t6, t7, t8, t9⟩ := L19.rw_.facts)
                      | (go_at_call 41; (with_reducible refine (k7 _ L19.sr).mono ?_); rintro e w20 ⟨rfl, hw20, hAw20⟩; have LZ := L19.scan hw20 hAw20; obtain ⟨⟨y0, y1, y2⟩, _⟩ := LZ.sr.facts; obtain ⟨_, r0, r1, r2, r3, r4, r5, r6, r7, r8, r9⟩ := LZ.rw_.facts; obtain ⟨⟨d0, d1, d2, d3, d4, d5, d6, d7, d8, d9⟩, _⟩ := LZ.rw_.facts; obtain ⟨⟨e0, e1, e2, e3, e4, e5, e6, e7, e8, e9⟩, v0, v1, v2, v3, v4, v5, v6, v7, v8, v9⟩ := Rw.facts (Blk.aw hQ0 LZ.aw hqg)))
                    refine bodyPost_ret (v := .agg #[.int .i64 ((0 : Nat) : Int), .string V1, .int .i64 (a : Int), .slice tA acc.length tc, .slice none 0 0, .string V5, .int .i64 (a3 : Int), .bool true, .string V8, .int .i64 (a5 : Int)]) (by simp [results, Tryz.results22, go_sem, e0, e1, e2, e3, e4, e5, e6, e7, e8, e9]) rfl ⟨_, rfl, LZ.fin hAw1 hQ0 (by omega) hg ?_ (fun _ => HRow.out)⟩
                    exact Aw.ten' rfl rfl rfl rfl rfl rfl rfl rfl rfl rfl
end
section
attribute [local go_sem ↓] Go.wp_at_zero Go.wp_at_succ
structure RQ (w0 w : World) (g : Nat) (ov : Value) (s : ByteArray) (a : Nat) (no : Bool) (acc : List VRow) : Prop where
  sr : Sr w g s a no
  own : w.ownsRow w0.heap.size 74 10 ov acc.length (acc.flatMap rowCell)
  all : ∀ x, x ∈ acc → OwnV w w0.heap.size x
  bl : Below w0.heap.size w0 w
  gl : w0.heap.size ≤ g
theorem RQ.call {w0 w w' : World} {g : Nat} {ov : Value} {s : ByteArray} {a a' : Nat} {no no' : Bool} {acc : List VRow} (h : RQ w0 w g ov s a no acc) (hs : Sr w' g s a' no') (k : Aw [g] w w') : RQ w0 w' g ov s a' no' acc := by
  refine ⟨hs, own_aw h.own k (fun i hi e => ?_), fun x hx => (h.all x hx).aw k (fun i hi => ?_), h.bl.trans (k.bel_of (fun i hi => by rw [List.mem_singleton.1 hi]; exact h.gl) h.bl.size), h.gl⟩
  · rw [List.mem_singleton.1 e] at hi; exact own_blk_ne h.own h.sr (by decide) hi
  · rw [List.mem_singleton.1 hi]; exact ⟨fun n v xs q => own_blk_ne q h.sr (by decide), fun n v xs q => own_blk_ne q h.sr (by decide)⟩
theorem RQ.away {w0 w w' : World} {g : Nat} {ov : Value} {s : ByteArray} {a : Nat} {no : Bool} {acc : List VRow} (h : RQ w0 w g ov s a no acc) (k : Aw [] w w') : RQ w0 w' g ov s a no acc :=
  ⟨h.sr.aw k (by simp), own_aw h.own k (fun i hi e => by simp at e), fun x hx => (h.all x hx).aw k (fun i hi => by simp at hi), h.bl.trans (k.bel_of (fun i hi => by simp at hi) h.bl.size), h.gl⟩
theorem RQ.app {w0 w w' : World} {g : Nat} {ov ov' : Value} {s : ByteArray} {a : Nat} {no : Bool} {acc : List VRow} {x : VRow} (h : RQ w0 w g ov s a no acc) (k : Aw ov.ownBlock.toList w w') (hx : OwnV w w0.heap.size x) (ho : w'.ownsRow w0.heap.size 74 10 ov' (acc.length + 1) (acc.flatMap rowCell ++ rowCell x)) : RQ w0 w' g ov' s a no (acc ++ [x]) := by
  have hS : ∀ i, i ∈ ov.ownBlock.toList → (∀ n v xs, w.ownsRow w0.heap.size 86 4 v n xs → v.ownBlock ≠ some i) ∧ (∀ n v xs, w.ownsRow w0.heap.size 88 5 v n xs → v.ownBlock ≠ some i) := fun i hi => by
    have hi : ov.ownBlock = some i := by simpa using hi
    exact ⟨fun n v xs q e => own_own_ne q h.own (by decide) i e hi, fun n v xs q e => own_own_ne q h.own (by decide) i e hi⟩
  refine ⟨h.sr.aw k (fun e => own_blk_ne h.own h.sr (by decide) (by simpa using e)), by simpa using ho, fun y hy => ?_, h.bl.trans (k.bel_of (fun i hi => (h.own.lt i (by simpa using hi)).1) h.bl.size), h.gl⟩
  rcases List.mem_append.1 hy with hy | hy
  · exact (h.all y hy).aw k hS
  · rw [List.mem_singleton.1 hy]; exact hx.aw k hS
theorem RQ.has {w0 w : World} {g : Nat} {ov : Value} {s : ByteArray} {a : Nat} {no : Bool} {acc : List VRow} (h : RQ w0 w g ov s a no acc) : ∃ A c, ov = .slice A acc.length c ∧ HasRows w w.heap.size A acc.length (acc.map VRow.row) := by
  obtain ⟨A, c, rfl⟩ := own_form h.own
  exact ⟨A, c, rfl, acc, rfl, own_rows2 (f := rowCell) (fun _ => rfl) h.own rfl, fun x hx => ⟨own_rows2 (f := tagCell) (fun _ => rfl) (h.all x hx).1 rfl, own_rows2 (f := fieldCell) (fun _ => rfl) (h.all x hx).2 rfl⟩⟩
/-- What the reference's Rows tells. -/
def RowsE2 (R : List MRow × Nat × Bool) (e : Ending) (w' : World) : Prop := ∃ A n c, e = .returned (.tuple #[.slice A n c, .int .i64 (if R.2.2 then (R.2.1 : Int) else -1)]) ∧ HasRows w' w'.heap.size A n (if R.2.2 then [] else R.1)
theorem rowsE2_no {R : List MRow × Nat × Bool} {a : Nat} {w' : World} (h : R.2 = (a, true)) : RowsE2 R (.returned (.tuple #[.slice none 0 0, .int .i64 (a : Int)])) w' := by
  obtain ⟨R1, R2⟩ := R
  simp only at h; subst h
  exact ⟨_, _, _, rfl, HasRows.nil_⟩
theorem rowsE2_yes {R : List MRow × Nat × Bool} {a : Nat} {L : List MRow} {w' : World} {A : Option Addr} {n c : Nat} (h : R = (L, a, false)) (hr : HasRows w' w'.heap.size A n L) : RowsE2 R (.returned (.tuple #[.slice A n c, .int .i64 (-1)])) w' := by
  subst h
  exact ⟨_, _, _, rfl, hr⟩
set_option maxRecDepth 100000 in
set_option maxHeartbeats 3200000 in
theorem rows24r_any (s : ByteArray) (w : World) (hs : s.size ≤ 1048576) :
    Calls Tryz.prog 10 #[.string s] w fun e w' => RowsE2 (dotRows s.data.toList) e w' ∧ Below w.heap.size w w' := by
  have HL : Hid (s.data.toList.length = s.size) := Lib.hid (by simp)
  have H0 : Hid (rowsGo dotLineS s.data.toList (s.data.toList.length + 1) 0 [] = dotRows s.data.toList) := Lib.hid rfl
  generalize dotRows s.data.toList = R at H0 ⊢
  obtain ⟨i2, hi2, jz0, jz1, jz2⟩ := info_parts Tryz.infoRow
  have RQ0 : RQ w (w.alloc (.cells #[.string s, .int .i64 0, .bool false] 82)) w.heap.size (.slice none 0 0) s 0 false [] :=
    ⟨Blk.new w _ _, World.ownsRow_nil _ _ _ _, by simp, (Below.refl _ _).alloc (Nat.le_refl _) _, Nat.le_refl _⟩
  go_enter Tryz.func10, Tryz.ntmps10
  go_wp2_with fail
  go_loopw [5] (fun ov wr => ∃ (a f : Nat) (acc : List VRow), a ≤ s.size ∧ s.size < f + a ∧ acc.length ≤ a ∧ RQ w wr w.heap.size ov s a false acc ∧ Hid (rowsGo dotLineS s.data.toList f a (acc.map VRow.row) = R)) (fun _ wr => s.size - atOf wr w.heap.size)
  case atStart => exact ⟨0, _, [], by omega, by (have := HL.out; omega), by simp, RQ0, H0⟩
  case round =>
    clear RQ0 H0
    obtain ⟨a, f, acc, ha, hf, hacc, hX, HI⟩ := hrel
    obtain ⟨f, rfl⟩ : ∃ f', f = f' + 1 := ⟨f - 1, by omega⟩
    have hat := hX.sr.atOf
    obtain ⟨⟨c0, c1, c2⟩, f1, f2⟩ := hX.sr.facts
    have hI := HI.out
    unfold rowsGo at hI
    by_cases hlt : a < s.size
    case neg =>
      have hd : decide ((a : Int) < s.size) = false := decide_eq_false (by omega)
      rw [if_pos (by rw [HL.out]; omega)] at hI
      have HI2 := Lib.hid hI.symm
      clear hI HI
      obtain ⟨A, c, rfl, hrows⟩ := hX.has
      go_wp2_with fail
      go_ret2
      exact ⟨rowsE2_yes HI2.out hrows, hX.bl⟩
    case pos =>
      have hd : decide ((a : Int) < s.size) = true := decide_eq_true (by omega)
      rw [if_neg (by rw [HL.out]; omega)] at hI
      obtain ⟨M, p, np, hM⟩ : ∃ M p np, dotLineS s.data.toList a = (M, p, np) := ⟨_, _, _, rfl⟩
      have hle := dotLineS_le (l := s.data.toList) (a := a) (by rw [HL.out]; omega)
      have hlt2 := dotLine_lt (l := s.data.toList) (a := a) (by rw [HL.out]; omega)
      rw [hM] at hI hle hlt2
      rw [HL.out] at hle
      simp only at hI hle hlt2
      have kL := fun W h => line24_any w.heap.size s a M p np W h (by omega) hs hM
      have HI2 := Lib.hid hI
      clear hI hM HI
      have hut : Tryz.prog.underlying 23 = some (.slice 74) := by kernel_rfl
      go_upto_region 5 with (go_at_call 22; refine (kL _ hX.sr).mono ?_; rintro e w4 ⟨v, rfl, ⟨x, rfl, hox, hxr⟩, h4, hA4⟩; have L4 := hX.call h4 hA4)
      have HXR := Lib.hid hxr
      have hox2 : OwnV w4 w.heap.size x := ⟨own_more hox.1 hX.bl.size, own_more hox.2 hX.bl.size⟩
      have L5 := L4.away ((Aw.refl _ _).alloc (.cells #[.int .i64 (x.row.kind : Int), .string x.row.name, .int .i64 (x.row.off : Int), .slice x.tA x.row.tags.length x.tc, .slice x.fA x.row.fields.length x.fc, .string x.row.text, .int .i64 (x.row.pos : Int), .bool x.row.timed, .string x.row.time, .int .i64 (x.row.when_ : Int)] 74))
      have hox3 : OwnV (w4.alloc (.cells #[.int .i64 (x.row.kind : Int), .string x.row.name, .int .i64 (x.row.off : Int), .slice x.tA x.row.tags.length x.tc, .slice x.fA x.row.fields.length x.fc, .string x.row.text, .int .i64 (x.row.pos : Int), .bool x.row.timed, .string x.row.time, .int .i64 (x.row.when_ : Int)] 74)) w.heap.size x := hox2.aw (S := []) ((Aw.refl _ _).alloc _) (fun i hi => by simp at hi)
      clear hxr hox hox2 kL L4 h4 hA4
      have hB := Blk.new w4 74 #[.int .i64 (x.row.kind : Int), .string x.row.name, .int .i64 (x.row.off : Int), .slice x.tA x.row.tags.length x.tc, .slice x.fA x.row.fields.length x.fc, .string x.row.text, .int .i64 (x.row.pos : Int), .bool x.row.timed, .string x.row.time, .int .i64 (x.row.when_ : Int)]
      generalize hW5 : w4.alloc _ = W5 at L5 hox3 hB ⊢
      clear hW5
      obtain ⟨⟨d0, d1, d2⟩, g1, g2⟩ := L5.sr.facts
      have q0 := (Blk.cell hB 0).trans rfl
      have q1 := (Blk.cell hB 1).trans rfl
      have q2 := (Blk.cell hB 2).trans rfl
      have q3 := (Blk.cell hB 3).trans rfl
      have q4 := (Blk.cell hB 4).trans rfl
      have q5 := (Blk.cell hB 5).trans rfl
      have q6 := (Blk.cell hB 6).trans rfl
      have q7 := (Blk.cell hB 7).trans rfl
      have q8 := (Blk.cell hB 8).trans rfl
      have q9 := (Blk.cell hB 9).trans rfl
      cases np
      case true =>
        simp only [if_true] at HI2
        have hR : R.2 = (p, true) := by rw [← HI2.out]
        have HR := Lib.hid hR
        clear HI2 hR q0 q1 q2 q3 q4 q5 q6 q7 q8 q9
        go_wp2_with fail
        go_quiet (fail)
        go_wp2_with fail
        go_ret2
        exact ⟨rowsE2_no HR.out, bl_drewN L5.bl _⟩
      case false =>
        have HI3 : Hid (rowsGo dotLineS s.data.toList f p ((acc ++ [x]).map VRow.row) = R) := Lib.hid (by
          rw [List.map_append, List.map_cons, List.map_nil, HXR.out rfl, ← HI2.out]; simp)
        have hlt2 := hlt2 rfl
        clear HI2 HXR
        go_wp2_with (at_builtin; go_loud (refine wpList_append_lies _ (by rfl) _ _ _ (by rfl) w.heap.size 74 i2 _ 10 136 hut hi2 jz0 jz1 jz2 rfl (by omega) u5 acc.length (acc.flatMap rowCell) (by rfl) (own_aw L5.own (S := []) ((Aw.refl _ _).alloc _) (fun i hi e => by simp at e)) ⟨W5.heap.size, 0, none⟩ 1 1 (rowCell x) (by rfl) (by rfl) (World.news_of_block (heap_alloc_new W5 _)) (by simp [rowCell, Value.oneCell']) (by omega) (by simp [maxLen]; omega) (by omega) (by have := L5.bl.size; simp; omega) (W5.heap.size + 1) (by simp) ?_); intro gg capg w9 hown9 hgrow hat9 hlt9; have L10 := L5.app (((Aw.refl _ _).alloc _).grown hgrow (fun k hk => .inl (by simp [hk]))) hox3 hown9)
        exact ⟨⟨p, f, acc ++ [x], hle.2, by omega, by simp; omega, L10, HI3⟩, by rw [L10.sr.atOf, hat]; omega⟩
end
section
theorem neqTag (a b : ByteArray) (c d : Int) (w : World) : (binOp .neq 86 (.agg #[.string a, .string b, .int .i64 c, .int .i64 d]) (.agg #[.string a, .string b, .int .i64 c, .int .i64 d])).run Tryz.prog w = .ok (.bool false) w := by simp [go_sem]
theorem neqField (a b : ByteArray) (c d e : Int) (w : World) : (binOp .neq 88 (.agg #[.string a, .string b, .int .i64 c, .int .i64 d, .int .i64 e]) (.agg #[.string a, .string b, .int .i64 c, .int .i64 d, .int .i64 e])).run Tryz.prog w = .ok (.bool false) w := by simp [go_sem]
/-- The cells of a row in a slice. -/
def RowAt (w : World) (b o : Nat) (R : MRow) (tA : Option Addr) (tc : Nat) (fA : Option Addr) (fc : Nat) : Prop :=
  w.cell? ⟨b, o, none⟩ = some (.int .i64 R.kind) ∧ w.cell? ⟨b, o + 1, none⟩ = some (.string R.name) ∧ w.cell? ⟨b, o + 2, none⟩ = some (.int .i64 R.off) ∧ w.cell? ⟨b, o + 3, none⟩ = some (.slice tA R.tags.length tc) ∧ w.cell? ⟨b, o + 4, none⟩ = some (.slice fA R.fields.length fc) ∧ w.cell? ⟨b, o + 5, none⟩ = some (.string R.text) ∧ w.cell? ⟨b, o + 6, none⟩ = some (.int .i64 R.pos) ∧ w.cell? ⟨b, o + 7, none⟩ = some (.bool R.timed) ∧ w.cell? ⟨b, o + 8, none⟩ = some (.string R.time) ∧ w.cell? ⟨b, o + 9, none⟩ = some (.int .i64 R.when_)
theorem HasRows.len {w : World} {B : Nat} {A : Option Addr} {n : Nat} {rows : List MRow} (h : HasRows w B A n rows) : rows.length = n := by
  obtain ⟨l, h1, h2, _⟩ := h
  rw [← h1, List.length_map]; exact h2.1
theorem HasRows.at_ {w : World} {B : Nat} {A : Option Addr} {n : Nat} {rows : List MRow} (h : HasRows w B A n rows) {i : Nat} {R : MRow} (hi : rows[i]? = some R) :
    ∃ b off tA tc fA fc, A = some ⟨b, off, none⟩ ∧ b < B ∧ RowAt w b (off + i * 10) R tA tc fA fc ∧ IsRows tagCell 4 w B tA R.tags.length R.tags ∧ IsRows fieldCell 5 w B fA R.fields.length R.fields := by
  obtain ⟨l, h1, h2, h3⟩ := h
  rw [← h1, List.getElem?_map] at hi
  cases hx : l[i]? with
  | none => rw [hx] at hi; cases hi
  | some x =>
    rw [hx] at hi
    simp only [Option.map_some, Option.some.injEq] at hi
    subst hi
    have hm := List.mem_of_getElem? hx
    have hlt : i < l.length := (List.getElem?_eq_some_iff.1 hx).1
    obtain ⟨b, off, e, hb, hc⟩ := h2.2 (by have := h2.1; omega)
    refine ⟨b, off, x.tA, x.tc, x.fA, x.fc, e, hb, ?_, (h3 x hm).1, (h3 x hm).2⟩
    refine ⟨hc i x 0 _ hx rfl, ?_, ?_, ?_, ?_, ?_, ?_, ?_, ?_, ?_⟩
    · exact hc i x 1 _ hx rfl
    · exact hc i x 2 _ hx rfl
    · exact hc i x 3 _ hx rfl
    · exact hc i x 4 _ hx rfl
    · exact hc i x 5 _ hx rfl
    · exact hc i x 6 _ hx rfl
    · exact hc i x 7 _ hx rfl
    · exact hc i x 8 _ hx rfl
    · exact hc i x 9 _ hx rfl
theorem IsRows.tag {w : World} {B : Nat} {A : Option Addr} {n : Nat} {l : List MTag} (h : IsRows tagCell 4 w B A n l) {i : Nat} {t : MTag} (hi : l[i]? = some t) :
    ∃ b off, A = some ⟨b, off, none⟩ ∧ b < B ∧ w.cell? ⟨b, off + i * 4, none⟩ = some (.string t.name) ∧ w.cell? ⟨b, off + i * 4 + 1, none⟩ = some (.string t.value) ∧ w.cell? ⟨b, off + i * 4 + 2, none⟩ = some (.int .i64 t.off) ∧ w.cell? ⟨b, off + i * 4 + 3, none⟩ = some (.int .i64 t.pos) := by
  obtain ⟨b, off, e, hb, hc⟩ := h.2 (by have := h.1; have := (List.getElem?_eq_some_iff.1 hi).1; omega)
  exact ⟨b, off, e, hb, hc i t 0 _ hi rfl, hc i t 1 _ hi rfl, hc i t 2 _ hi rfl, hc i t 3 _ hi rfl⟩
theorem IsRows.fld {w : World} {B : Nat} {A : Option Addr} {n : Nat} {l : List MField} (h : IsRows fieldCell 5 w B A n l) {i : Nat} {t : MField} (hi : l[i]? = some t) :
    ∃ b off, A = some ⟨b, off, none⟩ ∧ b < B ∧ w.cell? ⟨b, off + i * 5, none⟩ = some (.string t.name) ∧ w.cell? ⟨b, off + i * 5 + 1, none⟩ = some (.string t.value) ∧ w.cell? ⟨b, off + i * 5 + 2, none⟩ = some (.int .i64 t.off) ∧ w.cell? ⟨b, off + i * 5 + 3, none⟩ = some (.int .i64 t.pos) ∧ w.cell? ⟨b, off + i * 5 + 4, none⟩ = some (.int .i64 t.kind) := by
  obtain ⟨b, off, e, hb, hc⟩ := h.2 (by have := h.1; have := (List.getElem?_eq_some_iff.1 hi).1; omega)
  exact ⟨b, off, e, hb, hc i t 0 _ hi rfl, hc i t 1 _ hi rfl, hc i t 2 _ hi rfl, hc i t 3 _ hi rfl, hc i t 4 _ hi rfl⟩
/-- What of a row's copy is looked at later. -/
def Cop (w : World) (v : Value) (R : MRow) (tA : Option Addr) (tc : Nat) (fA : Option Addr) (fc : Nat) : Prop :=
  ∃ g, v = .pointer (some ⟨g, 0, none⟩) ∧ RowAt w g 0 R tA tc fA fc
set_option maxRecDepth 100000 in
set_option maxHeartbeats 6400000 in
theorem sameRows_any (A1 A2 : Option Addr) (n1 n2 k1 k2 : Nat) (rows : List MRow) (w : World) (h1 : HasRows w w.heap.size A1 n1 rows) (h2 : HasRows w w.heap.size A2 n2 rows) (hn : n1 ≤ 1048576) (hrow : ∀ R ∈ rows, R.tags.length ≤ 1048576 ∧ R.fields.length ≤ 1048576) :
    Calls Tryz.prog 12 #[.slice A1 n1 k1, .slice A2 n2 k2] w fun e w' => e = .returned (.bool true) ∧ Below w.heap.size w w' := by
  obtain rfl : n1 = n2 := h1.len.symm.trans h2.len
  have HL := Lib.hid h1.len
  have hrow := fun R h => hrow R h
  have hnn : ((n1 : Int) != n1) = false := by simp
  go_enter Tryz.func12, Tryz.ntmps12
  go_wp2_with fail
  go_loopw [5] (fun i wr => Below w.heap.size w wr ∧ ∃ k : Nat, k ≤ n1 ∧ i = .int .i64 k) (fun i _ => n1 - (intOf i).toNat)
  case atStart => exact ⟨Below.refl _ _, 0, by omega, rfl⟩
  case round =>
    obtain ⟨hbw, k, hk, rfl⟩ := hrel
    by_cases hlt : k < n1
    case neg =>
      have hd : decide ((k : Int) < n1) = false := decide_eq_false (by omega)
      go_wp2_with fail
      go_ret
      exact ⟨rfl, hbw⟩
    case pos =>
      have hd : decide ((k : Int) < n1) = true := decide_eq_true (by omega)
      have hi0 : (0 : Int) ≤ k := by omega
      have hi1 : (k : Int) < n1 := by omega
      obtain ⟨R, hR⟩ : ∃ R, rows[k]? = some R := ⟨_, List.getElem?_eq_getElem (by rw [HL.out]; exact hlt)⟩
      obtain ⟨b1, off1, tA1, tc1, fA1, fc1, rfl, hb1, ⟨p0, p1, p2, p3, p4, p5, p6, p7, p8, p9⟩, ht1, hf1⟩ := (h1.below hbw).at_ hR
      obtain ⟨b2, off2, tA2, tc2, fA2, fc2, rfl, hb2, ⟨q0, q1, q2, q3, q4, q5, q6, q7, q8, q9⟩, ht2, hf2⟩ := (h2.below hbw).at_ hR
      have hz := hbw.size
      have hbl1 : b1 < wr.heap.size := by omega
      have hbl2 : b2 < wr.heap.size := by omega
      have hRm := hrow R (List.mem_of_getElem? hR)
      clear hR
      obtain ⟨wo, rfl⟩ : ∃ wo, wo = wr := ⟨_, rfl⟩
      go_upto_region 6 with fail
      go_cut [6, 7] from 15 to 136 (fun x y wx => Cop wx x R tA1 tc1 fA1 fc1 ∧ Cop wx y R tA2 tc2 fA2 fc2 ∧ Below wo.heap.size wo wx)
      case first =>
        go_region
        all_goals
          go_wp2_with fail
          go_meet
          refine ⟨⟨_, rfl, ?_⟩, ⟨_, rfl, ?_⟩, ?_⟩
          · simp [RowAt, go_sem]
          · simp [RowAt, go_sem]
          · exact (((Below.refl _ _).alloc (Nat.le_refl _) _).alloc (by simp) _).drew
      case rest =>
        obtain ⟨⟨gx, rfl, hx⟩, ⟨gy, rfl, hy⟩, hb⟩ := hcut
        obtain ⟨x0, x1, x2, x3, x4, x5, x6, x7, x8, x9⟩ := hx
        obtain ⟨y0, y1, y2, y3, y4, y5, y6, y7, y8, y9⟩ := hy
        rw [Nat.zero_add] at x1 x2 x3 x4 x5 x6 x7 x8 x9 y1 y2 y3 y4 y5 y6 y7 y8 y9
        have HT1 := ht1.below (hb.mono hz)
        have HT2 := ht2.below (hb.mono hz)
        have HF1 := hf1.below (hb.mono hz)
        have HF2 := hf2.below (hb.mono hz)
        clear ht1 ht2 hf1 hf2 p0 p1 p2 p3 p4 p5 p6 p7 p8 p9 q0 q1 q2 q3 q4 q5 q6 q7 q8 q9
        have hbw2 : Below w.heap.size w wc := hbw.trans (hb.mono hz)
        obtain ⟨wi, rfl⟩ : ∃ wi, wi = wc := ⟨_, rfl⟩
        go_upto_block 2 with fail
        clear x0 x1 x2 x5 x6 x7 x8 x9 y0 y1 y2 y5 y6 y7 y8 y9 hd hi0 hi1
        have e1 := fun a b c d w => neqTag a b c d w
        have e2 := fun a b c d e w => neqField a b c d e w
        go_wp2_with fail
        go_loopw [8] (fun j wr => (∃ q, wr = wi.drewN q) ∧ ∃ m : Nat, m ≤ R.tags.length ∧ j = .int .i64 m) (fun j _ => R.tags.length - (intOf j).toNat)
        case atStart => exact ⟨⟨0, rfl⟩, 0, by omega, rfl⟩
        case round =>
          obtain ⟨⟨q, rfl⟩, m, hm, rfl⟩ := hrel
          by_cases hlm : m < R.tags.length
          case pos =>
            have hd : decide ((m : Int) < R.tags.length) = true := decide_eq_true (by omega)
            have hj0 : (0 : Int) ≤ m := by omega
            have hj1 : (m : Int) < R.tags.length := by omega
            have ht : R.tags[m]? = some (R.tags[m]'hlm) := List.getElem?_eq_getElem hlm
            obtain ⟨c1, o1, rfl, _, p0, p1, p2, p3⟩ := HT1.tag ht
            obtain ⟨c2, o2, rfl, _, q0, q1, q2, q3⟩ := HT2.tag ht
            generalize R.tags[m]'hlm = t at p0 p1 p2 p3 q0 q1 q2 q3
            clear ht
            go_wp2_with fail
            go_quiet (fail)
            go_wp2_with fail
            exact ⟨⟨⟨_, rfl⟩, m + 1, by omega, rfl⟩, by (simp only [intOf]; omega)⟩
          case neg =>
            have hd : decide ((m : Int) < R.tags.length) = false := decide_eq_false (by omega)
            go_wp2_with fail
            go_loopw [9] (fun j wr => (∃ q, wr = wi.drewN q) ∧ ∃ m : Nat, m ≤ R.fields.length ∧ j = .int .i64 m) (fun j _ => R.fields.length - (intOf j).toNat)
            case atStart => exact ⟨⟨_, rfl⟩, 0, by omega, rfl⟩
            case round =>
              clear hd
              obtain ⟨⟨q2, rfl⟩, m2, hm2, rfl⟩ := hrel
              by_cases hlm2 : m2 < R.fields.length
              case pos =>
                have hd : decide ((m2 : Int) < R.fields.length) = true := decide_eq_true (by omega)
                have hj0 : (0 : Int) ≤ m2 := by omega
                have hj1 : (m2 : Int) < R.fields.length := by omega
                have ht : R.fields[m2]? = some (R.fields[m2]'hlm2) := List.getElem?_eq_getElem hlm2
                obtain ⟨c1, o1, rfl, _, p0, p1, p2, p3, p4⟩ := HF1.fld ht
                obtain ⟨c2, o2, rfl, _, q0, q1, q2, q3, q4⟩ := HF2.fld ht
                generalize R.fields[m2]'hlm2 = t at p0 p1 p2 p3 p4 q0 q1 q2 q3 q4
                clear ht
                go_wp2_with fail
                go_quiet (fail)
                go_wp2_with fail
                exact ⟨⟨⟨_, rfl⟩, m2 + 1, by omega, rfl⟩, by (simp only [intOf]; omega)⟩
              case neg =>
                have hd : decide ((m2 : Int) < R.fields.length) = false := decide_eq_false (by omega)
                go_wp2_with fail
                exact ⟨⟨bl_drewN hbw2 _, k + 1, by omega, rfl⟩, by (simp only [intOf]; omega)⟩
end
section
theorem HasRows.next {w w' : World} {A : Option Addr} {n : Nat} {rows : List MRow} (h : HasRows w w.heap.size A n rows) (k : Below w.heap.size w w') : HasRows w' w'.heap.size A n rows := (h.below k).more k.size
theorem dRows_len (l : List UInt8) : ∀ R ∈ (dotRows l).1, R.tags.length ≤ l.length + 1 ∧ R.fields = [] := by
  unfold dotRows
  exact rowsGo_allR (P := fun R => R.tags.length ≤ l.length + 1 ∧ R.fields = []) dotLineS l (fun a => ⟨(dotLine_ok l a).1, rfl⟩) _ _ _ (by simp)
set_option maxRecDepth 100000 in
set_option maxHeartbeats 3200000 in
theorem tells24_any (s : ByteArray) (m : Int) (w : World) (hm : MxAt w m) (hs : s.size ≤ 9223372036854775807) :
    Calls Tryz.prog 3 #[.string s] w fun e w' => e = .returned (.bool true) ∧ Below w.heap.size w w' := by
  by_cases h1500 : 1500 < s.size
  · have hd1 : decide ((1500 : Int) < s.size) = true := decide_eq_true (by omega)
    go_enter Tryz.func3, Tryz.ntmps3
    go_wp2_with (go_at_call 8; refine (known24_any m _ hm).mono ?_; rintro e w1 ⟨rfl, hb1⟩)
    go_ret
    exact ⟨rfl, hb1⟩
  have hd1 : decide ((1500 : Int) < s.size) = false := decide_eq_false (by omega)
  have h1500 : s.size ≤ 1500 := by omega
  have hL : s.data.toList.length = s.size := by simp
  have kB := fun W => dbad_any s W (by omega)
  have kR := fun W => drows_any s W (by omega)
  have kQ := fun W => rows24r_any s W (by omega)
  have hrow := dRows_len s.data.toList
  have hmany := (dotRows_ok s.data.toList).2
  unfold dotBad at kB
  generalize dotRows s.data.toList = R at kB kR kQ hrow hmany
  rw [hL] at hrow hmany
  obtain ⟨R1, ra, rn⟩ := R
  simp only at hrow hmany
  clear hL
  obtain ⟨rows, bad, hok, hrl, hrow2, kR2, kQ2, kB2⟩ : ∃ (rows : List MRow) (bad : Int), ((!rn) == decide (bad < 0)) = true ∧ rows.length ≤ 1501 ∧ (∀ R ∈ rows, R.tags.length ≤ 1048576 ∧ R.fields.length ≤ 1048576) ∧
      (∀ W, Calls Tryz.prog 9 #[.string s] W fun e w' => (∃ A n c, e = .returned (.tuple #[.slice A n c, .bool (!rn)]) ∧ HasRows w' w'.heap.size A n rows) ∧ Below W.heap.size W w') ∧
      (∀ W, Calls Tryz.prog 10 #[.string s] W fun e w' => (∃ A n c, e = .returned (.tuple #[.slice A n c, .int .i64 bad]) ∧ HasRows w' w'.heap.size A n rows) ∧ Below W.heap.size W w') ∧
      (∀ W, Calls Tryz.prog 11 #[.string s] W fun e w' => e = .returned (.int .i64 bad) ∧ Below W.heap.size W w') := by
    refine ⟨_, _, ?_, ?_, ?_, kR, kQ, kB⟩
    · cases rn
      · simp
      · simp
    · cases rn
      · simp; omega
      · simp
    · intro R hR
      cases rn
      · have := hrow R (by simpa using hR)
        rw [this.2]; simp; omega
      · simp at hR
  clear kR kQ kB hrow
  have HRW := Lib.hid hrow2
  have HN : ∀ {w A n}, HasRows w w.heap.size A n rows → n ≤ 1048576 := fun h => by have := h.len; omega
  clear hmany hrow2 hrl
  obtain ⟨ok, hok1⟩ : ∃ ok, (!rn) = ok := ⟨_, rfl⟩
  obtain ⟨neg, hneg⟩ : ∃ neg, decide (bad < 0) = neg := ⟨_, rfl⟩
  rw [hok1] at kR2 hok
  rw [hneg] at hok
  obtain rfl : ok = neg := by simpa using hok
  clear hok hok1
  go_enter Tryz.func3, Tryz.ntmps3
  go_wp2_with (first
    | (go_at_call 8; refine (known24_any m _ hm).mono ?_; rintro e w1 ⟨rfl, hb1⟩)
    | (go_at_call 9; (with_reducible refine (kR2 _).mono ?_); rintro e w2 ⟨⟨A, n, c, rfl, hr⟩, hb2⟩)
    | (go_at_call 10; (with_reducible refine (kQ2 _).mono ?_); rintro e w3 ⟨⟨A2, n2, c2, rfl, hr2⟩, hb3⟩; have hr3 := hr.next hb3)
    | (go_at_call 11; (with_reducible refine (kB2 _).mono ?_); rintro e w4 ⟨rfl, hb4⟩; have hr4 := hr3.next hb4; have hr5 := hr2.next hb4)
    | (go_at_call 12; refine (sameRows_any _ _ _ _ _ _ rows _ hr4 hr5 (HN hr4) HRW.out).mono ?_; rintro e w5 ⟨rfl, hb5⟩))
  go_ret
  exact ⟨rfl, bl_any (bl_any (bl_any (bl_any hb1 hb2) hb3) hb4) hb5⟩
end
section
theorem knB (s : ByteArray) (k : Int) (h : dotBad s.data.toList = k) (hs : s.size ≤ 1048576) (w : World) : Calls Tryz.prog 11 #[.string s] w fun e w' => e = .returned (.int .i64 k) ∧ Below w.heap.size w w' := by
  rw [← h]; exact dbad_any s w hs
theorem str_app (a b : ByteArray) : (a ++ b).data.toList = a.data.toList ++ b.data.toList := by
  rw [ByteArray.data_append]; simp
theorem far_at {s : ByteArray} {k : Nat} (h : dotBad s.data.toList = (k : Int)) (hk : k < s.size) (e : ByteArray) : dotBad (s.extract 0 (k + 1) ++ e).data.toList = k := by
  rw [str_app, ext_bytes, List.drop_zero, Nat.sub_zero]
  exact dotBad_far h (by simpa using hk) _
theorem pre_at {s : ByteArray} {k : Nat} (h : dotBad s.data.toList = (k : Int)) : dotBad (s.extract 0 k).data.toList = k ∨ dotBad (s.extract 0 k).data.toList = -1 := by
  rw [ext_bytes, List.drop_zero, Nat.sub_zero]
  exact dotBad_pre h
theorem twice_at {s : ByteArray} (h : dotBad s.data.toList = -1) : dotBad (s ++ s).data.toList = -1 := by
  rw [str_app]; exact dotBad_twice h
set_option maxRecDepth 100000 in
set_option maxHeartbeats 3200000 in
theorem far24_any (s : ByteArray) (A : Option Addr) (n cap : Nat) (xs : List ByteArray) (m : Int) (w : World) (hm : MxAt w m) (hl : IsRows strCell 1 w w.heap.size A n xs) (hn : n ≤ 9223372036854775807) (hs : s.size ≤ 9223372036854775807) :
    Calls Tryz.prog 4 #[.string s, .slice A n cap] w fun e w' => e = .returned (.bool true) ∧ Below w.heap.size w w' := by
  have kK := known24_any m w hm
  by_cases hbig : 1000 < s.size ∨ 8 < n
  · by_cases h1000 : 1000 < s.size
    · have hd1 : decide ((1000 : Int) < s.size) = true := decide_eq_true (by omega)
      go_enter Tryz.func4, Tryz.ntmps4
      go_wp2_with (go_at_call 8; (with_reducible refine kK.mono ?_); rintro e w1 ⟨rfl, hb1⟩)
      go_ret
      exact ⟨rfl, hb1⟩
    · have hd1 : decide ((1000 : Int) < s.size) = false := decide_eq_false (by omega)
      have hd2 : decide ((8 : Int) < n) = true := decide_eq_true (by omega)
      go_enter Tryz.func4, Tryz.ntmps4
      go_wp2_with (go_at_call 8; (with_reducible refine kK.mono ?_); rintro e w1 ⟨rfl, hb1⟩)
      go_ret
      exact ⟨rfl, hb1⟩
  have hd1 : decide ((1000 : Int) < s.size) = false := decide_eq_false (by omega)
  have hd2 : decide ((8 : Int) < n) = false := decide_eq_false (by omega)
  have h1000 : s.size ≤ 1000 := by omega
  have h8 : n ≤ 8 := by omega
  clear hbig
  have hbd := dotBad_bd s.data.toList
  have hL : s.data.toList.length = s.size := by simp
  rw [hL] at hbd
  have kB := fun W => dbad_any s W (by omega)
  rcases Int.lt_or_le (dotBad s.data.toList) 0 with hneg | hpos
  · have hk : dotBad s.data.toList = -1 := by omega
    have kT := fun W => knB (s ++ s) (-1) (twice_at hk) (by rw [ByteArray.size_append]; omega) W
    rw [hk] at kB
    clear hk hbd hneg
    have hdk : decide ((s.size : Int) < -1) = false := decide_eq_false (by omega)
    have hlen : ¬ 9223372036854775807 < s.size + s.size := by omega
    go_enter Tryz.func4, Tryz.ntmps4
    go_wp2_with (first
      | (go_at_call 8; (with_reducible refine kK.mono ?_); rintro e w1 ⟨rfl, hb1⟩)
      | (go_at_call 11; (with_reducible refine (kB _).mono ?_); rintro e w2 ⟨rfl, hb2⟩))
    refine wp_loop_rounds 1 ?_
    rw [rounds_succ]
    cases hn0 : decide ((0 : Int) < n)
    all_goals
      go_wp2_with (go_at_call 11; (with_reducible refine (kT _).mono ?_); rintro e w3 ⟨rfl, hb3⟩)
      all_goals go_ret
      all_goals exact ⟨rfl, bl_any (bl_any hb1 hb2) hb3⟩
  · obtain ⟨k, hk⟩ : ∃ k : Nat, dotBad s.data.toList = (k : Int) := ⟨(dotBad s.data.toList).toNat, by omega⟩
    have hks : k ≤ s.size := by omega
    have kF := fun e (hk2 : k < s.size) => far_at hk hk2 e
    have kP := pre_at hk
    rw [hk] at kB
    clear hbd hpos hk
    have hdk : decide ((k : Int) < -1) = false := decide_eq_false (by omega)
    have hdk2 : decide ((s.size : Int) < k) = false := decide_eq_false (by omega)
    have hdk5 : decide (s.size < k) = false := decide_eq_false (by omega)
    have hdk3 : decide (0 ≤ (k : Int)) = true := decide_eq_true (by omega)
    have hdk4 : decide ((k : Int) < 0) = false := decide_eq_false (by omega)
    have hi0 : (0 : Int) ≤ k := by omega
    have hi1 : (k : Int) ≤ s.size := by omega
    obtain ⟨x, hx⟩ : ∃ x, dotBad (s.extract 0 k).data.toList = x := ⟨_, rfl⟩
    rw [hx] at kP
    have kX := fun W => knB (s.extract 0 k) x hx (by rw [ByteArray.size_extract]; omega) W
    clear hx
    go_enter Tryz.func4, Tryz.ntmps4
    go_wp2_with (first
      | (go_at_call 8; (with_reducible refine kK.mono ?_); rintro e w1 ⟨rfl, hb1⟩)
      | (go_at_call 11; (with_reducible refine (kB _).mono ?_); rintro e w2 ⟨rfl, hb2⟩))
    have hb02 := bl_any hb1 hb2
    go_loopw [6] (fun i wr => Below w.heap.size w wr ∧ ∃ j : Nat, j ≤ n ∧ i = .int .i64 j) (fun i _ => n - (intOf i).toNat)
    case atStart => exact ⟨hb02, 0, by omega, rfl⟩
    case round =>
      obtain ⟨hbr, j, hj, rfl⟩ := hrel
      by_cases hin : j < n ∧ k < s.size
      · obtain ⟨hjn, hks2⟩ := hin
        have hdj : decide ((j : Int) < n) = true := decide_eq_true (by omega)
        have hdj2 : decide ((k : Int) < s.size) = true := decide_eq_true (by omega)
        obtain ⟨b, off, hA, hb, hc⟩ := hl.2 (by omega)
        subst hA
        obtain ⟨y, hy⟩ : ∃ y, xs[j]? = some y := ⟨_, List.getElem?_eq_getElem (by rw [hl.1]; exact hjn)⟩
        have c0 : wr.cell? ⟨b, off + j, none⟩ = some (.string y) := (hbr.cell (p := ⟨b, off + j, none⟩) hb).trans (by have := hc j y 0 _ hy rfl; simpa using this)
        have hj0 : (0 : Int) ≤ j := by omega
        have hj1 : (j : Int) < n := by omega
        have hq1 : IntKind.i64.wrap ((k : Int) + 1) = (k : Int) + 1 := IntWalk.i64_in _ (by omega)
        have hq2 : (k : Int) + 1 ≤ s.size := by omega
        have hq3 : (0 : Int) ≤ (k : Int) + 1 := by omega
        clear hy hc
        by_cases h200 : y.size ≤ 200
        · have hd200 : decide ((y.size : Int) ≤ 200) = true := decide_eq_true (by omega)
          have kY := fun W => knB (s.extract 0 (k + 1) ++ y) k (kF y hks2) (by rw [ByteArray.size_append, ByteArray.size_extract]; omega) W
          have hsz : ¬ 9223372036854775807 < min (k + 1) s.size - 0 + y.size := by omega
          have hsz2 : ¬ 9223372036854775807 < min (k + 1) s.size + y.size := by omega
          go_wp2_with fail
          go_region_held3 (fun w' => w'.cell? ⟨b, off + j, none⟩ = some (.string y)) (first | (simp [go_sem, *]; done)) (first
            | (go_at_call 11; refine (kY _).mono ?_; rintro e w3 ⟨rfl, hb3⟩; have c3 : w3.cell? ⟨b, off + j, none⟩ = some (.string y) := (hb3.cell (p := ⟨b, off + j, none⟩) (by have := hbr.size; first | omega | (simp; omega))).trans (by simpa using c0)))
          go_wp2_with fail
          exact ⟨⟨bl_any (by first | exact hbr | exact bl_drewN hbr 1 | exact bl_drewN hbr 2) hb3, j + 1, by omega, rfl⟩, by (simp only [intOf]; omega)⟩
        · have hd200 : decide ((y.size : Int) ≤ 200) = false := decide_eq_false (by omega)
          go_wp2_with fail
          go_quiet (fail)
          go_wp2_with fail
          exact ⟨⟨bl_drewN hbr _, j + 1, by omega, rfl⟩, by (simp only [intOf]; omega)⟩
      · by_cases hjn : j < n
        · have hdj : decide ((j : Int) < n) = true := decide_eq_true (by omega)
          have hdj2 : decide ((k : Int) < s.size) = false := decide_eq_false (by omega)
          go_wp2_with (go_at_call 11; (with_reducible refine (kX _).mono ?_); rintro e w3 ⟨rfl, hb3⟩)
          all_goals go_ret
          all_goals first
            | exact ⟨rfl, bl_any hbr hb3⟩
            | exact ⟨ret_bool (by rcases kP with h | h <;> simp [h]), bl_any hbr hb3⟩
        · have hdj : decide ((j : Int) < n) = false := decide_eq_false (by omega)
          go_wp2_with (go_at_call 11; (with_reducible refine (kX _).mono ?_); rintro e w3 ⟨rfl, hb3⟩)
          all_goals go_ret
          all_goals first
            | exact ⟨rfl, bl_any hbr hb3⟩
            | exact ⟨ret_bool (by rcases kP with h | h <;> simp [h]), bl_any hbr hb3⟩
end
section
attribute [local go_sem ↓] Go.wp_at_zero Go.wp_at_succ
theorem dotBad_rows (R : List MRow × Nat × Bool) : (if R.2.2 then (R.2.1 : Int) else -1) = (if R.2.2 = true then (R.2.1 : Int) else -1) := rfl
set_option maxHeartbeats 1600000 in
theorem badHelp_any (s : ByteArray) (w : World) (hs : s.size ≤ 1048576) :
    Calls Tryz.prog 24 #[.int .i64 3, .string s] w fun e w' => e = .returned (.int .i64 (dotBad s.data.toList)) ∧ Below w.heap.size w w' := by
  have kQ := rows24r_any s w hs
  have hb : dotBad s.data.toList = (if (dotRows s.data.toList).2.2 then ((dotRows s.data.toList).2.1 : Int) else -1) := rfl
  rw [hb]
  generalize dotRows s.data.toList = R at kQ
  have kQ2 : Calls Tryz.prog 10 #[.string s] w fun e w' => (∃ A n c, e = .returned (.tuple #[.slice A n c, .int .i64 (if R.2.2 then (R.2.1 : Int) else -1)])) ∧ Below w.heap.size w w' := kQ.mono fun e w' ⟨⟨A, n, c, h, _⟩, h2⟩ => ⟨⟨A, n, c, h⟩, h2⟩
  generalize (if R.2.2 then (R.2.1 : Int) else -1) = B at kQ2 ⊢
  clear kQ hb
  go_enter Tryz.func24, Tryz.ntmps24
  go_wp2_with (go_at_call 10; refine kQ2.mono ?_; rintro e w1 ⟨⟨A, n, c, rfl⟩, hb1⟩)
  go_ret
  exact ⟨rfl, hb1⟩
def endB (i : Nat) : ByteArray := mkS (endsD.getD i [])
def restB (i : Nat) : ByteArray := mkS (restU.getD i [])
/-- The two tables, as they lie in memory. -/
def Tabs (w : World) (g : Nat) : Prop := (∀ i, i < 1 → w.cell? ⟨g, i, none⟩ = some (.string (endB i))) ∧ (∀ r, r < 9 → w.cell? ⟨g + 1, r, none⟩ = some (.string (restB r))) ∧ g + 2 ≤ w.heap.size
theorem Tabs.below {w w' : World} {g : Nat} (h : Tabs w g) (k : Below w.heap.size w w') : Tabs w' g :=
  ⟨fun i hi => (k.cell (p := ⟨g, i, none⟩) (by have := h.2.2; show g < _; omega)).trans (h.1 i hi), fun i hi => (k.cell (p := ⟨g + 1, i, none⟩) (by have := h.2.2; show g + 1 < _; omega)).trans (h.2.1 i hi), by have := h.2.2; have := k.size; omega⟩
theorem tabs_new (w : World) : Tabs ((w.alloc (.cells #[.string ⟨#[97, 46, 97, 59, 97, 61, 97, 32, 49, 46, 49, 32, 49, 10]⟩] 9)).alloc (.cells #[.string ⟨#[]⟩, .string ⟨#[128]⟩, .string ⟨#[160]⟩, .string ⟨#[144]⟩, .string ⟨#[128, 128]⟩, .string ⟨#[160, 128]⟩, .string ⟨#[144, 128]⟩, .string ⟨#[128, 128, 128]⟩, .string ⟨#[144, 128, 128]⟩] 9)) w.heap.size := by
  refine ⟨fun i hi => ?_, fun i hi => ?_, by simp⟩
  · rw [World.cell?_alloc_lt _ _ ⟨_, _, none⟩ (by simp), World.cell?_alloc_at _ _ _ _ rfl]
    match i, hi with
    | 0, _ => rfl
    | n + 1, h => omega
  · rw [World.cell?_alloc_at _ _ _ _ (by simp)]
    match i, hi with
    | 0, _ => rfl
    | 1, _ => rfl
    | 2, _ => rfl
    | 3, _ => rfl
    | 4, _ => rfl
    | 5, _ => rfl
    | 6, _ => rfl
    | 7, _ => rfl
    | 8, _ => rfl
    | n + 9, h => omega
theorem endB_size (i : Nat) : (endB i).size = (endsD.getD i []).length := rfl
theorem endB_le (i : Nat) (h : i < 1) : (endB i).size ≤ 20 := by
  match i, h with
  | 0, _ => decide
  | n + 1, h => omega
theorem restB_le (i : Nat) (h : i < 9) : (restB i).size ≤ 3 := by
  match i, h with
  | 0, _ => decide
  | 1, _ => decide
  | 2, _ => decide
  | 3, _ => decide
  | 4, _ => decide
  | 5, _ => decide
  | 6, _ => decide
  | 7, _ => decide
  | 8, _ => decide
  | n + 9, h => omega
def endT (r i j : Nat) : ByteArray := restB r ++ (endB i).extract j (endB i).size
theorem endT_list (s : ByteArray) (r i j : Nat) : (s ++ endT r i j).data.toList = s.data.toList ++ (restU.getD r [] ++ (endsD.getD i []).drop j) := by
  unfold endT
  rw [str_app, str_app, ext_bytes, List.take_of_length_le (by rw [List.length_drop]; exact Nat.le_refl _)]
  rfl
/-- Is the text with that end one? -/
def clB (s : ByteArray) (r i j : Nat) : Bool := decide (dotBad (s ++ endT r i j).data.toList < 0)
def CloseE (s : ByteArray) (e : Ending) : Prop := ∃ t : ByteArray, e = .returned (.tuple #[.string t, .bool true]) ∧ t.size ≤ 30 ∧ dotBad (s ++ t).data.toList = -1
theorem closeE_mk {s : ByteArray} {r i j : Nat} (hi : i < 1) (hr : r < 9) (h : clB s r i j = true) : CloseE s (.returned (.tuple #[.string (endT r i j), .bool true])) := by
  refine ⟨_, rfl, ?_, ?_⟩
  · unfold endT
    rw [ByteArray.size_append, ByteArray.size_extract]
    have := endB_le i hi
    have := restB_le r hr
    omega
  · have h1 := dotBad_bd (s ++ endT r i j).data.toList
    unfold clB at h
    have := of_decide_eq_true h
    omega
set_option maxRecDepth 100000 in
set_option maxHeartbeats 6400000 in
theorem close_any (s : ByteArray) (w : World) (hs : s.size ≤ 1000) (H : ∃ r i j, r < 9 ∧ i < 1 ∧ j ≤ (endB i).size ∧ clB s r i j = true) :
    Calls Tryz.prog 13 #[.int .i64 3, .string s] w fun e w' => CloseE s e ∧ Below w.heap.size w w' := by
  have hT0 := tabs_new w
  have HH := Lib.hid H
  clear H
  go_enter Tryz.func13, Tryz.ntmps13
  go_wp2_with fail
  go_loopw [8] (fun v wr => (Tabs wr w.heap.size ∧ Below w.heap.size w wr) ∧ ∃ r : Nat, r ≤ 9 ∧ v = .int .i64 r ∧ Hid (∀ r', r' < r → ∀ i j, i < 1 → j ≤ (endB i).size → clB s r' i j = false)) (fun v _ => 9 - (intOf v).toNat)
  case atStart => exact ⟨⟨hT0, ((Below.refl _ _).alloc (Nat.le_refl _) _).alloc (by simp) _⟩, 0, by omega, rfl, Lib.hid (fun r' h => absurd h (by omega))⟩
  case round =>
    clear hT0
    obtain ⟨⟨hT, hb⟩, r, hr, rfl, HA⟩ := hrel
    by_cases hr9 : r < 9
    case neg =>
      exfalso
      obtain ⟨r', i, j, h1, h2, h3, h4⟩ := HH.out
      rw [HA.out r' (by omega) i j h2 h3] at h4
      cases h4
    case pos =>
      have hd : decide ((r : Int) < 9) = true := decide_eq_true (by omega)
      go_wp2_with fail
      go_loopw [9] (fun v wr => (Tabs wr w.heap.size ∧ Below w.heap.size w wr) ∧ ∃ i : Nat, i ≤ 1 ∧ v = .int .i64 i ∧ Hid (∀ i', i' < i → ∀ j, j ≤ (endB i').size → clB s r i' j = false)) (fun v _ => 1 - (intOf v).toNat)
      case atStart => exact ⟨⟨hT, hb⟩, 0, by omega, rfl, Lib.hid (fun r' h => absurd h (by omega))⟩
      case round =>
        clear hT hb hd
        obtain ⟨⟨hT, hb⟩, i, hi, rfl, HB⟩ := hrel
        by_cases hi8 : i < 1
        case neg =>
          have hd : decide ((i : Int) < 1) = false := decide_eq_false (by omega)
          obtain rfl : i = 1 := by omega
          have HA2 : Hid (∀ r', r' < r + 1 → ∀ i j, i < 1 → j ≤ (endB i).size → clB s r' i j = false) := Lib.hid (fun r' h i j h1 h2 => by
            rcases Nat.lt_or_ge r' r with h' | h'
            · exact HA.out r' h' i j h1 h2
            · obtain rfl : r' = r := by omega
              exact HB.out i h1 j h2)
          clear HA HB
          go_wp2_with fail
          exact ⟨⟨⟨hT, hb⟩, r + 1, by omega, rfl, HA2⟩, by (simp only [intOf]; omega)⟩
        case pos =>
          have hd : decide ((i : Int) < 1) = true := decide_eq_true (by omega)
          go_wp2_with fail
          go_loopw [10] (fun v wr => (Tabs wr w.heap.size ∧ Below w.heap.size w wr) ∧ ∃ j : Nat, j ≤ (endB i).size + 1 ∧ v = .int .i64 j ∧ Hid (∀ j', j' < j → clB s r i j' = false)) (fun v _ => (endB i).size + 1 - (intOf v).toNat)
          case atStart => exact ⟨⟨hT, hb⟩, 0, by omega, rfl, Lib.hid (fun r' h => absurd h (by omega))⟩
          case round =>
            clear hT hb hd
            obtain ⟨⟨hT, hb⟩, j, hj, rfl, HC⟩ := hrel
            have c1 := hT.1 i hi8
            have c2 := hT.2.1 r hr9
            have hi0 : (0 : Int) ≤ i := by omega
            have hi1 : (i : Int) < 2 := by omega
            have hr0 : (0 : Int) ≤ r := by omega
            have hr1 : (r : Int) < 9 := by omega
            have hz1 := endB_le i hi8
            have hz2 := restB_le r hr9
            by_cases hjl : j ≤ (endB i).size
            case neg =>
              have hd : decide ((j : Int) ≤ (endB i).size) = false := decide_eq_false (by omega)
              have HB2 : Hid (∀ i', i' < i + 1 → ∀ j, j ≤ (endB i').size → clB s r i' j = false) := Lib.hid (fun i' h j' h2 => by
                rcases Nat.lt_or_ge i' i with h' | h'
                · exact HB.out i' h' j' h2
                · obtain rfl : i' = i := by omega
                  exact HC.out j' (by omega))
              clear HB HC
              obtain ⟨n, hn⟩ : ∃ n, n = (endB i).size := ⟨_, rfl⟩
              rw [← hn] at hz1 hj hjl hd
              have HN := Lib.hid hn
              clear hn
              generalize endB i = E at c1 HN
              have hn2 : E.size = n := HN.out.symm
              go_wp2_with fail
              exact ⟨⟨⟨hT, hb⟩, i + 1, by omega, rfl, HB2⟩, by (simp only [intOf]; omega)⟩
            case pos =>
              have hd : decide ((j : Int) ≤ (endB i).size) = true := decide_eq_true (by omega)
              have hj0 : (0 : Int) ≤ j := by omega
              have hj1 : (j : Int) ≤ (endB i).size := by omega
              have hs3 : (endT r i j).size ≤ 30 := by
                unfold endT; rw [ByteArray.size_append, ByteArray.size_extract]; omega
              have kB := fun W => badHelp_any (s ++ endT r i j) W (by rw [ByteArray.size_append]; omega)
              have hCE : clB s r i j = true → CloseE s (.returned (.tuple #[.string (endT r i j), .bool true])) := closeE_mk hi8 hr9
              have HC2 : clB s r i j = false → Hid (∀ j', j' < j + 1 → clB s r i j' = false) := fun h0 => Lib.hid (fun j' h' => by
                rcases Nat.lt_or_ge j' j with h2 | h2
                · exact HC.out j' h2
                · obtain rfl : j' = j := by omega
                  exact h0)
              obtain ⟨cl, hcl⟩ : ∃ cl, clB s r i j = cl := ⟨_, rfl⟩
              have hcl2 : decide (dotBad (s ++ endT r i j).data.toList < 0) = cl := hcl
              rw [hcl] at hCE HC2
              have HT1 : Hid (endT r i j = restB r ++ (endB i).extract j (endB i).size) := Lib.hid rfl
              generalize dotBad (s ++ endT r i j).data.toList = B at kB hcl2
              generalize endT r i j = T at HT1 hs3 kB hCE
              obtain ⟨n, hn⟩ : ∃ n, n = (endB i).size := ⟨_, rfl⟩
              rw [← hn] at hz1 hj hjl hj1 hd
              have HN := Lib.hid hn
              clear hn hcl HC
              generalize endB i = E at c1 HT1 HN
              generalize restB r = X at c2 HT1 hz2
              have hn2 : E.size = n := HN.out.symm
              have hl1 : ¬ 9223372036854775807 < X.size + (n - j) := by omega
              have hl2 : ¬ 9223372036854775807 < s.size + T.size := by omega
              have hmin : min n n = n := Nat.min_self n
              go_wp2_with fail
              have HT2 : Hid (X ++ E.extract j n = T) := Lib.hid (by rw [HT1.out, hn2])
              go_quiet (fail)
              rw [HT2.out]
              clear HT2 HT1 hl1
              cases cl
              case true =>
                have HCE := Lib.hid (hCE rfl)
                clear hCE HC2
                go_wp2_with (go_at_call 24; refine (kB _).mono ?_; rintro e w4 ⟨rfl, hb4⟩)
                go_ret2
                exact ⟨HCE.out, bl_any (bl_drewN hb _) hb4⟩
              case false =>
                have HC3 := HC2 rfl
                clear hCE HC2
                go_wp2_with (go_at_call 24; refine (kB _).mono ?_; rintro e w4 ⟨rfl, hb4⟩)
                have hT4 : Tabs w4 w.heap.size := Tabs.below (w := wr) (w' := w4) hT (bl_any (bl_drewN (Below.refl _ _) nq) hb4)
                exact ⟨⟨⟨hT4, bl_any (bl_drewN hb _) hb4⟩, j + 1, by omega, rfl, HC3⟩, by (simp only [intOf]; omega)⟩
end
section
theorem closes_at {s : ByteArray} {k : Nat} (hk : k ≤ s.size) (h : dotBad s.data.toList = -1 ∨ (k : Int) ≤ dotBad s.data.toList) : ∃ r i j, r < 9 ∧ i < 1 ∧ j ≤ (endB i).size ∧ clB (s.extract 0 k) r i j = true := by
  obtain ⟨r, i, j, h1, h2, h3, h4⟩ := dot_closes (l := s.data.toList) (k := k) (by simpa using hk) h
  refine ⟨r, i, j, h1, h2, h3, ?_⟩
  unfold clB
  rw [endT_list, ext_bytes, List.drop_zero, Nat.sub_zero, h4]
  decide
set_option maxRecDepth 100000 in
set_option maxHeartbeats 3200000 in
theorem closes24_any (s : ByteArray) (c : Int) (m : Int) (w : World) (hm : MxAt w m) (hs : s.size ≤ 9223372036854775807) (hc0 : 0 ≤ c) (hc1 : c ≤ 65535) :
    Calls Tryz.prog 5 #[.string s, .int .u16 c] w fun e w' => e = .returned (.bool true) ∧ Below w.heap.size w w' := by
  by_cases h300 : 300 < s.size
  · have hd1 : decide ((300 : Int) < s.size) = true := decide_eq_true (by omega)
    go_enter Tryz.func5, Tryz.ntmps5
    go_wp2_with (go_at_call 8; refine (known24_any m _ hm).mono ?_; rintro e w1 ⟨rfl, hb1⟩)
    go_ret
    exact ⟨rfl, hb1⟩
  have hd1 : decide ((300 : Int) < s.size) = false := decide_eq_false (by omega)
  have hbd := dotBad_bd s.data.toList
  have hL : s.data.toList.length = s.size := by simp
  rw [hL] at hbd
  have kB := fun W => dbad_any s W (by omega)
  have hfin : ∀ k : Nat, k ≤ s.size → (dotBad s.data.toList = -1 ∨ (k : Int) ≤ dotBad s.data.toList) → ∀ W, Calls Tryz.prog 13 #[.int .i64 3, .string (s.extract 0 k)] W fun e w' => CloseE (s.extract 0 k) e ∧ Below W.heap.size W w' := fun k hk h W => close_any (s.extract 0 k) W (by rw [ByteArray.size_extract]; omega) (closes_at hk h)
  rcases Int.lt_or_le (dotBad s.data.toList) 0 with hneg | hpos
  · have hk : dotBad s.data.toList = -1 := by omega
    obtain ⟨k, hkk⟩ : ∃ k : Nat, (k : Int) = c % ((s.size : Int) + 1) := ⟨(c % ((s.size : Int) + 1)).toNat, Int.toNat_of_nonneg (Int.emod_nonneg _ (by omega))⟩
    have hks : k ≤ s.size := by
      have := Int.emod_lt_of_pos c (show (0 : Int) < (s.size : Int) + 1 by omega)
      omega
    have kC := hfin k hks (.inl hk)
    have hm1 : c % ((s.size : Int) + 1) = (k : Int) := hkk.symm
    have hm2 : c.tmod ((s.size : Int) + 1) = (k : Int) := by rw [Int.tmod_eq_emod_of_nonneg hc0]; exact hm1
    have hse : (s.extract 0 k).size ≤ 300 := by rw [ByteArray.size_extract]; omega
    rw [hk] at kB
    have hd2 : decide ((s.size : Int) < k) = false := decide_eq_false (by omega)
    have hd3 : decide (s.size < k) = false := decide_eq_false (by omega)
    have hi0 : (0 : Int) ≤ k := by omega
    have hi1 : (k : Int) ≤ s.size := by omega
    clear hk hbd hneg hfin hkk
    go_enter Tryz.func5, Tryz.ntmps5
    go_wp2_with (first
      | (go_at_call 8; refine (known24_any m _ hm).mono ?_; rintro e w1 ⟨rfl, hb1⟩)
      | (go_at_call 11; (with_reducible refine (kB _).mono ?_); rintro e w2 ⟨rfl, hb2⟩)
      | (go_at_call 13; refine (kC _).mono ?_; rintro e w3 ⟨⟨t, rfl, ht, hbt⟩, hb3⟩; have kT := fun W => knB (s.extract 0 k ++ t) (-1) hbt (by rw [ByteArray.size_append]; omega) W; clear hbt; have hl2 : ¬ 9223372036854775807 < min k s.size - 0 + t.size := (by omega); have hl3 : ¬ 9223372036854775807 < min k s.size + t.size := (by omega))
      | (go_at_call 11; (with_reducible refine (kT _).mono ?_); rintro e w4 ⟨rfl, hb4⟩))
    go_ret
    exact ⟨rfl, bl_any (bl_any (bl_any hb1 hb2) hb3) hb4⟩
  · obtain ⟨k, hk⟩ : ∃ k : Nat, dotBad s.data.toList = (k : Int) := ⟨(dotBad s.data.toList).toNat, by omega⟩
    have hks : k ≤ s.size := by omega
    have kC := hfin k hks (.inr (by omega))
    have hse : (s.extract 0 k).size ≤ 300 := by rw [ByteArray.size_extract]; omega
    rw [hk] at kB
    have hd2 : decide ((s.size : Int) < k) = false := decide_eq_false (by omega)
    have hd3 : decide (s.size < k) = false := decide_eq_false (by omega)
    have hd4 : decide ((k : Int) < 0) = false := decide_eq_false (by omega)
    have hi0 : (0 : Int) ≤ k := by omega
    have hi1 : (k : Int) ≤ s.size := by omega
    clear hk hbd hpos hfin
    go_enter Tryz.func5, Tryz.ntmps5
    go_wp2_with (first
      | (go_at_call 8; refine (known24_any m _ hm).mono ?_; rintro e w1 ⟨rfl, hb1⟩)
      | (go_at_call 11; (with_reducible refine (kB _).mono ?_); rintro e w2 ⟨rfl, hb2⟩)
      | (go_at_call 13; refine (kC _).mono ?_; rintro e w3 ⟨⟨t, rfl, ht, hbt⟩, hb3⟩; have kT := fun W => knB (s.extract 0 k ++ t) (-1) hbt (by rw [ByteArray.size_append]; omega) W; clear hbt; have hl2 : ¬ 9223372036854775807 < min k s.size - 0 + t.size := (by omega); have hl3 : ¬ 9223372036854775807 < min k s.size + t.size := (by omega))
      | (go_at_call 11; (with_reducible refine (kT _).mono ?_); rintro e w4 ⟨rfl, hb4⟩))
    go_ret
    exact ⟨rfl, bl_any (bl_any (bl_any hb1 hb2) hb3) hb4⟩
theorem wf16 {n : Int} (h : (Lit.int .u16 n).wf = true) : 0 ≤ n ∧ n ≤ 65535 := by
  simp [Lit.wf, IntKind.min, IntKind.max, IntKind.signed, IntKind.bits] at h
  omega
end
end Go.Proofs.YtoplengednoldaaGreatDoor
