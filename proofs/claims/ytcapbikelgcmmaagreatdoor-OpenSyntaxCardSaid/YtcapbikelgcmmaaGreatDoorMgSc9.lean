/- The walks of package scan: its small methods. The walks of package utf. The walks of package scan: words, classes, numbers, scalars, signs behind backslashes. strings.Builder's writing methods at this program, walked by hand (turned from the library's walks over any program). The walks of package scan: numbers, scalars, signs behind backslashes. The walks of package scan: scalars up to a byte, signs. The walks of package scan: scalars up to a byte, signs: the loops over a builder. The walks of functions that tell whether a byte is of a class, and of While, Some by them. Pieces of a text as lists. A reader of rows beside its scanner; a row under way: what stands in memory. Append of a slice that reads as a list (nil let in) onto a row of the call's own. Rows that a call tells: the kit of a reader of rows. -/
import Derived.Test.YtcapbikelgcmmaaGreatDoorAway
import Derived.Test.YtcapbikelgcmmaaGreatDoorMgPl9
import Derived.Deep.RegionHeld3
import Derived.Deep.QuietTactic
import Derived.BigQuiet
import Derived.IntWalk
import Derived.Test.YtcapbikelgcmmaaGreatDoorProg
import Derived.Test.YtcapbikelgcmmaaGreatDoorAux2
import Derived.Test.YtcapbikelgcmmaaGreatDoorMem
import Derived.Test.YtcapbikelgcmmaaGreatDoorOwn
import Derived.Test.YtcapbikelgcmmaaGreatDoorShelfA
import Derived.WalkLawsBesides
import Derived.Test.YtcapbikelgcmmaaGreatDoorCore
import Derived.Lib.Builder
import Derived.Lib.AppendStr
import Derived.Lib.Strings
import Derived.Lib.Slices
import Derived.Lib.Walk
import Derived.WalkKit
import Derived.Laws.Externs
import Derived.Test.YtcapbikelgcmmaaGreatDoorShelfE
import Derived.Test.YtcapbikelgcmmaaGreatDoorOpen
import Derived.Deep.AppendLies
import Derived.OwnWalk
import Derived.Deep.CutRange
import Derived.Deep.CutBlock
import Derived.Deep.RegionLaw
import Derived.Below
import Derived.Laws.OwnMore
import Derived.Deep.Draws
import Derived.Maps.AppendAt
import Derived.RegionTactic
namespace Go.Proofs.YtcapbikelgcmmaaGreatDoor
set_option linter.unusedVariables false
set_option linter.unusedSimpArgs false
open Go.RowKit
section
/-- The scanner's block: a text, how far it went, whether it can't go on. -/
def Sc (w : World) (g : Nat) (s : ByteArray) (a : Nat) (no : Bool) : Prop := Blk w g 120 #[.string s, .int .i64 (a : Int), .bool no]
section
variable {w w' : World} {g : Nat} {s : ByteArray} {a : Nat} {no : Bool}
theorem Sc.facts (h : Sc w g s a no) : (w.cell? ⟨g, 0, none⟩ = some (.string s) ∧ w.cell? ⟨g, 1, none⟩ = some (.int .i64 (a : Int)) ∧ w.cell? ⟨g, 2, none⟩ = some (.bool no)) ∧ w.frozen? ⟨g, 1, none⟩ = false ∧ w.frozen? ⟨g, 2, none⟩ = false :=
  ⟨⟨(Blk.cell h 0).trans rfl, (Blk.cell h 1).trans rfl, (Blk.cell h 2).trans rfl⟩, Blk.frozen h 1, Blk.frozen h 2⟩
theorem Sc.lt (h : Sc w g s a no) : g < w.heap.size := Blk.lt h
theorem Sc.at1 (h : Sc w g s a no) : Sc (w.setCell ⟨g, 1, none⟩ (.int .i64 ((a : Int) + 1))) g s (a + 1) no := by
  have := Blk.set_ h 1 (.int .i64 ((a : Int) + 1))
  exact this
theorem Sc.atN (h : Sc w g s a no) (n : Nat) : Sc (w.setCell ⟨g, 1, none⟩ (.int .i64 (n : Int))) g s n no := Blk.set_ h 1 (.int .i64 (n : Int))
theorem Sc.no1 (h : Sc w g s a no) (b : Bool) : Sc (w.setCell ⟨g, 2, none⟩ (.bool b)) g s a b := Blk.set_ h 2 (.bool b)
theorem Sc.drew (h : Sc w g s a no) : Sc w.drew g s a no := h
theorem Sc.drewN (h : Sc w g s a no) (n : Nat) : Sc (w.drewN n) g s a no := h
theorem Sc.aw {S : List Nat} (h : Sc w g s a no) (k : Aw S w w') (hg : g ∉ S) : Sc w' g s a no := Blk.aw h k hg
theorem Sc.below {B : Nat} (h : Sc w g s a no) (k : Below B w w') (hg : g < B) : Sc w' g s a no := Blk.below h k hg
theorem Sc.alloc (h : Sc w g s a no) (o : Obj) : Sc (w.alloc o) g s a no := Blk.alloc h o
end
theorem new_any (s : ByteArray) (w : World) :
    Calls Tryz.prog 54 #[.string s] w fun e w' => e = .returned (.pointer (some ⟨w.heap.size, 0, none⟩)) ∧ Sc w' w.heap.size s 0 false ∧ Below w.heap.size w w' ∧ w.heap.size < w'.heap.size := by
  go_enter Tryz.func54, Tryz.ntmps54
  go_wp2_with fail
  go_ret
  exact ⟨rfl, Blk.new w _ _, (Below.refl _ _).alloc (Nat.le_refl _) _, by simp⟩
theorem at_any (g : Nat) (s : ByteArray) (a : Nat) (no : Bool) (w : World) (h : Sc w g s a no) :
    Calls Tryz.prog 30 #[.pointer (some ⟨g, 0, none⟩)] w fun e w' => e = .returned (.int .i64 (a : Int)) ∧ w = w' := by
  obtain ⟨⟨c0, c1, c2⟩, f1, f2⟩ := h.facts
  go_enter Tryz.func30, Tryz.ntmps30
  go_wp2_with fail
  go_ret
  exact ⟨rfl, rfl⟩
theorem stopped_any (g : Nat) (s : ByteArray) (a : Nat) (no : Bool) (w : World) (h : Sc w g s a no) :
    Calls Tryz.prog 29 #[.pointer (some ⟨g, 0, none⟩)] w fun e w' => e = .returned (.bool no) ∧ w = w' := by
  obtain ⟨⟨c0, c1, c2⟩, f1, f2⟩ := h.facts
  go_enter Tryz.func29, Tryz.ntmps29
  go_wp2_with fail
  go_ret
  exact ⟨rfl, rfl⟩
theorem stop_any (g : Nat) (s : ByteArray) (a : Nat) (no : Bool) (w : World) (h : Sc w g s a no) :
    Calls Tryz.prog 58 #[.pointer (some ⟨g, 0, none⟩)] w fun e w' => e = .returned (.tuple #[]) ∧ Sc w' g s a true ∧ Aw [g] w w' := by
  obtain ⟨⟨c0, c1, c2⟩, f1, f2⟩ := h.facts
  go_enter Tryz.func58, Tryz.ntmps58
  go_wp2_with fail
  go_end0
  exact ⟨rfl, h.no1 true, (Aw.refl _ _).setCell (.inl (by simp)) _⟩
theorem end_any (g : Nat) (s : ByteArray) (a : Nat) (no : Bool) (w : World) (h : Sc w g s a no) :
    Calls Tryz.prog 56 #[.pointer (some ⟨g, 0, none⟩)] w fun e w' => e = .returned (.bool (a == s.size)) ∧ Sc w' g s a no ∧ Aw [] w w' := by
  obtain ⟨⟨c0, c1, c2⟩, f1, f2⟩ := h.facts
  have HB := Lib.hid (show ((a : Int) == (s.size : Int)) = (a == s.size) from bcl (by simp; omega))
  go_enter Tryz.func56, Tryz.ntmps56
  go_wp2_with fail
  go_quiet (fail)
  go_wp2_with fail
  go_ret
  exact ⟨ret_bool (by first | rfl | exact HB.out), h.drewN _, (Aw.refl _ _).drewN _⟩
/-- What Peek tells. -/
def pkC (l : List UInt8) (a : Nat) (no : Bool) : Int := if pkB l a no then bt l a else 0
theorem pkB_cases (s : ByteArray) (a : Nat) (no : Bool) (ha : a ≤ s.size) : (no = true ∧ pkB s.data.toList a no = false) ∨ (no = false ∧ a = s.size ∧ pkB s.data.toList a no = false) ∨ (no = false ∧ a < s.size ∧ pkB s.data.toList a no = true) := by
  have hl : s.data.toList.length = s.size := by simp
  cases no
  · right
    rcases Nat.lt_or_ge a s.size with h | h
    · exact .inr ⟨rfl, h, by simp [pkB, h]⟩
    · exact .inl ⟨rfl, by omega, by simp [pkB]; omega⟩
  · exact .inl ⟨rfl, rfl⟩
set_option maxHeartbeats 1000000 in
theorem peek_any (g : Nat) (s : ByteArray) (a : Nat) (no : Bool) (w : World) (h : Sc w g s a no) (ha : a ≤ s.size) (hs : s.size ≤ 4611686018427387904) :
    Calls Tryz.prog 147 #[.pointer (some ⟨g, 0, none⟩)] w fun e w' => e = .returned (.tuple #[.int .u8 (pkC s.data.toList a no), .bool (pkB s.data.toList a no)]) ∧ Sc w' g s a no ∧ Aw [] w w' := by
  obtain ⟨⟨c0, c1, c2⟩, f1, f2⟩ := h.facts
  rcases pkB_cases s a no ha with ⟨rfl, hp⟩ | ⟨rfl, rfl, hp⟩ | ⟨rfl, hlt, hp⟩
  · have hc : pkC s.data.toList a true = 0 := by unfold pkC; rw [hp]; rfl
    rw [hp, hc]
    clear hp hc
    go_enter Tryz.func147, Tryz.ntmps147
    go_wp2_with fail
    go_ret2
    exact ⟨rfl, h, Aw.refl _ _⟩
  · have hc : pkC s.data.toList s.size false = 0 := by unfold pkC; rw [hp]; rfl
    rw [hp, hc]
    clear hp hc
    go_enter Tryz.func147, Tryz.ntmps147
    go_wp2_with (go_at_call 56; refine (end_any g s s.size false _ h).mono ?_; rintro e w1 ⟨rfl, h1, hA⟩)
    go_ret2
    exact ⟨rfl, h1, hA⟩
  · have hc : pkC s.data.toList a false = bt s.data.toList a := by unfold pkC; rw [hp]; rfl
    have HC := Lib.hid (getElem_bt hlt)
    rw [hp, hc]
    clear hp hc
    have hq : (a == s.size) = false := by rw [beq_eq_false_iff_ne]; omega
    have hi0 : (0 : Int) ≤ a := by omega
    have hi1 : (a : Int) < s.size := by omega
    go_enter Tryz.func147, Tryz.ntmps147
    go_wp2_with (go_at_call 56; refine (end_any g s a false _ h).mono ?_; rintro e w1 ⟨rfl, h1, hA⟩; rw [hq]; obtain ⟨⟨d0, d1, d2⟩, _, _⟩ := h1.facts)
    go_quiet (fail)
    go_wp2_with fail
    go_ret2
    refine ⟨?_, h1.drewN _, hA.drewN _⟩
    rw [← HC.out]; rfl
theorem isB_def (l : List UInt8) (a : Nat) (no : Bool) (c : Int) : (pkB l a no = true ∧ isB l a no c = (pkC l a no == c)) ∨ (pkB l a no = false ∧ isB l a no c = false) := by
  cases h : pkB l a no
  · exact .inr ⟨rfl, by unfold isB; rw [h]; rfl⟩
  · exact .inl ⟨rfl, by unfold isB pkC; rw [h]; rfl⟩
theorem is_any (g : Nat) (s : ByteArray) (a : Nat) (no : Bool) (c : Int) (w : World) (h : Sc w g s a no) (ha : a ≤ s.size) (hs : s.size ≤ 4611686018427387904) :
    Calls Tryz.prog 107 #[.pointer (some ⟨g, 0, none⟩), .int .u8 c] w fun e w' => e = .returned (.bool (isB s.data.toList a no c)) ∧ Sc w' g s a no ∧ Aw [] w w' := by
  have kP := peek_any g s a no
  rcases isB_def s.data.toList a no c with ⟨h1, h2⟩ | ⟨h1, h2⟩
  all_goals
    rw [h2]
    rw [h1] at kP
    clear h1 h2
    generalize pkC s.data.toList a no = d at kP ⊢
    go_enter Tryz.func107, Tryz.ntmps107
    go_wp2_with (go_at_call 147; refine (kP _ h ha hs).mono ?_; rintro e w1 ⟨rfl, h1, hA⟩)
    go_ret
    exact ⟨rfl, h1, hA⟩
theorem takes_any (g : Nat) (s : ByteArray) (a : Nat) (no : Bool) (c : Int) (w : World) (h : Sc w g s a no) (ha : a ≤ s.size) (hs : s.size ≤ 4611686018427387904) :
    Calls Tryz.prog 110 #[.pointer (some ⟨g, 0, none⟩), .int .u8 c] w fun e w' => e = .returned (.bool (isB s.data.toList a no c)) ∧ Sc w' g s (takeA s.data.toList a no c) no ∧ Aw [g] w w' := by
  have kP := is_any g s a no c
  unfold takeA
  cases hq : isB s.data.toList a no c
  all_goals
    rw [hq] at kP
    go_enter Tryz.func110, Tryz.ntmps110
    go_wp2_with (go_at_call 107; refine (kP _ h ha hs).mono ?_; rintro e w1 ⟨rfl, h1, hA⟩; obtain ⟨⟨c0, c1, c2⟩, f1, f2⟩ := h1.facts)
    go_ret
    first
      | exact ⟨rfl, h1.at1, (hA.mono (by simp)).setCell (.inl (by simp)) _⟩
      | exact ⟨rfl, h1, hA.mono (by simp)⟩
end
section
open Go.RowKit
theorem usize_any (c : Int) (w : World) (h0 : 0 ≤ c) (h1 : c ≤ 255) :
    Calls Tryz.prog 258 #[.int .u8 c] w fun e w' => e = .returned (.int .i64 (uSize c : Nat)) ∧ w = w' := by
  by_cases a : c < 128
  · go_enter Tryz.func258, Tryz.ntmps258
    go_wp2_with fail
    go_ret
    exact ⟨ret_int (by rw [show uSize c = 1 from by unfold uSize; (repeat' split) <;> omega]; rfl), rfl⟩
  by_cases b : c < 194
  · go_enter Tryz.func258, Tryz.ntmps258
    go_wp2_with fail
    go_ret
    exact ⟨ret_int (by rw [show uSize c = 0 from by unfold uSize; (repeat' split) <;> omega]; rfl), rfl⟩
  by_cases d : c < 224
  · go_enter Tryz.func258, Tryz.ntmps258
    go_wp2_with fail
    go_ret
    exact ⟨ret_int (by rw [show uSize c = 2 from by unfold uSize; (repeat' split) <;> omega]; rfl), rfl⟩
  by_cases f : c < 240
  · go_enter Tryz.func258, Tryz.ntmps258
    go_wp2_with fail
    go_ret
    exact ⟨ret_int (by rw [show uSize c = 3 from by unfold uSize; (repeat' split) <;> omega]; rfl), rfl⟩
  by_cases g : c < 245
  · go_enter Tryz.func258, Tryz.ntmps258
    go_wp2_with fail
    go_ret
    exact ⟨ret_int (by rw [show uSize c = 4 from by unfold uSize; (repeat' split) <;> omega]; rfl), rfl⟩
  · go_enter Tryz.func258, Tryz.ntmps258
    go_wp2_with fail
    go_ret
    exact ⟨ret_int (by rw [show uSize c = 0 from by unfold uSize; (repeat' split) <;> omega]; rfl), rfl⟩
theorem ret_u8_2 {a b c d : Int} (h : a = c) (k : b = d) : Ending.returned (.tuple #[.int .u8 a, .int .u8 b]) = .returned (.tuple #[.int .u8 c, .int .u8 d]) := by rw [h, k]
theorem usecond_any (c : Int) (w : World) (h0 : 0 ≤ c) (h1 : c ≤ 255) :
    Calls Tryz.prog 259 #[.int .u8 c] w fun e w' => e = .returned (.tuple #[.int .u8 (uLo c), .int .u8 (uHi c)]) ∧ w = w' := by
  by_cases a : c = 224
  · subst a
    go_enter Tryz.func259, Tryz.ntmps259
    go_wp2_with fail
    go_ret2
    exact ⟨rfl, rfl⟩
  by_cases b : c = 237
  · subst b
    go_enter Tryz.func259, Tryz.ntmps259
    go_wp2_with fail
    go_ret2
    exact ⟨rfl, rfl⟩
  by_cases d : c = 240
  · subst d
    go_enter Tryz.func259, Tryz.ntmps259
    go_wp2_with fail
    go_ret2
    exact ⟨rfl, rfl⟩
  by_cases f : c = 244
  · subst f
    go_enter Tryz.func259, Tryz.ntmps259
    go_wp2_with fail
    go_ret2
    exact ⟨rfl, rfl⟩
  · have a' : (c == 224) = false := by (rw [beq_eq_false_iff_ne]; exact a)
    have b' : (c == 237) = false := by (rw [beq_eq_false_iff_ne]; exact b)
    have d' : (c == 240) = false := by (rw [beq_eq_false_iff_ne]; exact d)
    have f' : (c == 244) = false := by (rw [beq_eq_false_iff_ne]; exact f)
    go_enter Tryz.func259, Tryz.ntmps259
    go_wp2_with fail
    go_ret2
    exact ⟨ret_u8_2 (by simp [uLo, a, d]) (by simp [uHi, b, f]), rfl⟩
/-- What front tells: the scalar is left open. -/
def FrontE (l : List UInt8) (a : Nat) (e : Ending) : Prop := ∃ r : Int, e = .returned (.tuple #[.int .i32 r, .int .i64 ((frontU l a).1 : Nat), .bool (frontU l a).2])
theorem frontE_mk {l : List UInt8} {a : Nat} {r : Int} {n : Nat} {b : Bool} (h : frontU l a = (n, b)) : FrontE l a (.returned (.tuple #[.int .i32 r, .int .i64 (n : Int), .bool b])) := ⟨r, by rw [h]⟩
theorem frGo_no (l : List UInt8) (a n f k : Nat) (hk : k < n) (ht : tailB l a k = false) : frGo l a n (f + 1) k = (k, false) := by
  rw [frGo, if_pos hk, if_neg (by rw [ht]; exact Bool.false_ne_true)]
theorem frGo_yes (l : List UInt8) (a n f k : Nat) (hk : k < n) (ht : tailB l a k = true) : frGo l a n (f + 1) k = frGo l a n f (k + 1) := by
  rw [frGo, if_pos hk, if_pos ht]
theorem frGo_end (l : List UInt8) (a n f : Nat) : frGo l a n f n = (n, true) := by
  cases f with
  | zero => rfl
  | succ f => rw [frGo, if_neg (Nat.lt_irrefl _)]
set_option maxRecDepth 100000 in
set_option maxHeartbeats 1600000 in
theorem ufront_any (s : ByteArray) (a : Nat) (w : World) (ha : a < s.size) (hs : s.size ≤ 4611686018427387904) :
    Calls Tryz.prog 249 #[.string s, .int .i64 a] w fun e w' => FrontE s.data.toList a e ∧ Below w.heap.size w w' := by
  have hc : ((s[a]).toNat : Int) = bt s.data.toList a := getElem_bt ha
  have c0 := bt_nonneg s.data.toList a
  have c1 := bt_le s.data.toList a
  have ha0 : (0 : Int) ≤ a := by omega
  have ha1 : (a : Int) < s.size := by omega
  have hn4 := uSize_le (bt s.data.toList a)
  by_cases h0 : uSize (bt s.data.toList a) = 0
  · have hf : frontU s.data.toList a = (0, false) := by unfold frontU; rw [if_pos h0]
    have hz : ((uSize (bt s.data.toList a) : Int) == 0) = true := by (rw [beq_iff_eq]; omega)
    have HF := Lib.hid hf
    clear h0 hf
    go_enter Tryz.func249, Tryz.ntmps249
    go_wp2_with (go_at_call 258; refine (usize_any _ _ (by omega) (by omega)).mono ?_; rintro e w1 ⟨rfl, rfl⟩)
    go_ret3
    exact ⟨frontE_mk HF.out, Below.refl _ _⟩
  · have HF : Hid (frGo s.data.toList a (uSize (bt s.data.toList a)) 4 1 = frontU s.data.toList a) := Lib.hid (by unfold frontU; rw [if_neg h0])
    obtain ⟨n, hn⟩ : ∃ n, uSize (bt s.data.toList a) = n := ⟨_, rfl⟩
    rw [hn] at hn4 h0 HF
    have hz : ((n : Int) == 0) = false := by (rw [beq_eq_false_iff_ne]; omega)
    have hn0 : (0 : Int) ≤ n := by omega
    have hn5 : (n : Int) < 5 := by omega
    go_enter Tryz.func249, Tryz.ntmps249
    go_wp2_with (go_at_call 258; refine (usize_any _ _ (by omega) (by omega)).mono ?_; rintro e w1 ⟨rfl, rfl⟩)
    have hB := Blk.new w 297 #[.int .u8 0, .int .u8 127, .int .u8 31, .int .u8 15, .int .u8 7]
    have hbX : Below w.heap.size w (w.alloc (.cells #[.int .u8 0, .int .u8 127, .int .u8 31, .int .u8 15, .int .u8 7] 297)) := (Below.refl _ _).alloc (Nat.le_refl _) _
    obtain ⟨m, hm⟩ : ∃ m : Int, (w.alloc (.cells #[.int .u8 0, .int .u8 127, .int .u8 31, .int .u8 15, .int .u8 7] 297)).cell? ⟨w.heap.size, n, none⟩ = some (.int .u8 m) := by
      rw [hB.cell n]
      match n, hn5 with
      | 0, _ => exact ⟨_, rfl⟩
      | 1, _ => exact ⟨_, rfl⟩
      | 2, _ => exact ⟨_, rfl⟩
      | 3, _ => exact ⟨_, rfl⟩
      | 4, _ => exact ⟨_, rfl⟩
      | k + 5, h => exact absurd h (by omega)
    clear hB
    generalize w.alloc (.cells #[.int .u8 0, .int .u8 127, .int .u8 31, .int .u8 15, .int .u8 7] 297) = wX at hm hbX ⊢
    go_quiet (fail)
    go_wp2_with (go_at_call 259; refine (usecond_any _ _ (by omega) (by omega)).mono ?_; rintro e w1 ⟨rfl, rfl⟩)
    have hbY := bl_drewN hbX nq
    generalize wX.drewN nq = wY at hbY ⊢
    clear hm hbX hn
    go_loop [9, 10, 11, 12] (fun r lo hi i => ∃ (rr : Int) (k f : Nat), 1 ≤ k ∧ k ≤ n ∧ a + k ≤ s.size ∧ r = .int .i32 rr ∧ lo = .int .u8 (kLo (bt s.data.toList a) k) ∧ hi = .int .u8 (kHi (bt s.data.toList a) k) ∧ i = .int .i64 k ∧ n ≤ f + k ∧ Hid (frGo s.data.toList a n f k = frontU s.data.toList a)) (fun _ _ _ i => n - (intOf i).toNat)
    case atStart => exact ⟨_, 1, 4, by omega, by omega, by omega, rfl, rfl, rfl, rfl, by omega, HF⟩
    case round =>
      obtain ⟨rr, k, f, hk1, hkn, hak, rfl, rfl, rfl, rfl, hf, HG⟩ := hrel
      clear HF
      have hk0 : (0 : Int) ≤ k := by omega
      by_cases hlt : k < n
      · have hdk : decide ((k : Int) < n) = true := decide_eq_true (by omega)
        obtain ⟨f, rfl⟩ : ∃ f', f = f' + 1 := ⟨f - 1, by omega⟩
        by_cases hin : a + k < s.size
        · have hd1 : decide ((s.size : Int) - a ≤ k) = false := decide_eq_false (by omega)
          have hck : ((s[a + k]).toNat : Int) = bt s.data.toList (a + k) := getElem_bt hin
          have q0 := bt_nonneg s.data.toList (a + k)
          have q1 := bt_le s.data.toList (a + k)
          have hi0 : (0 : Int) ≤ (a : Int) + k := by omega
          have hi1 : (a : Int) + k < s.size := by omega
          have htb : tailB s.data.toList a k = (decide (kLo (bt s.data.toList a) k ≤ bt s.data.toList (a + k)) && decide (bt s.data.toList (a + k) ≤ kHi (bt s.data.toList a) k)) := by
            unfold tailB
            rw [decide_eq_true (show a + k < s.data.toList.length by simpa using hin), Bool.true_and]
          by_cases hlo : bt s.data.toList (a + k) < kLo (bt s.data.toList a) k
          · have HF := Lib.hid (HG.out.symm.trans (frGo_no _ a n f k hlt (by rw [htb, decide_eq_false (by omega)]; rfl)))
            clear htb HG
            have hd2 : decide (bt s.data.toList (a + k) < kLo (bt s.data.toList a) k) = true := decide_eq_true hlo
            go_wp2_with fail
            go_ret3
            exact ⟨frontE_mk HF.out, hbY⟩
          · have hd2 : decide (bt s.data.toList (a + k) < kLo (bt s.data.toList a) k) = false := decide_eq_false hlo
            by_cases hhi : kHi (bt s.data.toList a) k < bt s.data.toList (a + k)
            · have HF := Lib.hid (HG.out.symm.trans (frGo_no _ a n f k hlt (by rw [htb, decide_eq_false (show ¬ bt s.data.toList (a + k) ≤ _ by omega), Bool.and_false])))
              clear htb HG
              have hd3 : decide (kHi (bt s.data.toList a) k < bt s.data.toList (a + k)) = true := decide_eq_true hhi
              go_wp2_with fail
              go_ret3
              exact ⟨frontE_mk HF.out, hbY⟩
            · have HF := Lib.hid ((frGo_yes _ a n f k hlt (by rw [htb, decide_eq_true (by omega), decide_eq_true (by omega)]; rfl)).symm.trans HG.out)
              clear htb HG
              have hd3 : decide (kHi (bt s.data.toList a) k < bt s.data.toList (a + k)) = false := decide_eq_false hhi
              have e1 : kLo (bt s.data.toList a) (k + 1) = 128 := by unfold kLo; rw [if_neg (by omega)]
              have e2 : kHi (bt s.data.toList a) (k + 1) = 191 := by unfold kHi; rw [if_neg (by omega)]
              go_wp2_with fail
              exact ⟨⟨_, k + 1, f, by omega, by omega, by omega, rfl, by rw [e1], by rw [e2], rfl, by omega, HF⟩, by (simp only [intOf]; omega)⟩
        · have hd1 : decide ((s.size : Int) - a ≤ k) = true := decide_eq_true (by omega)
          have HF := Lib.hid (HG.out.symm.trans (frGo_no _ a n f k hlt (by unfold tailB; rw [decide_eq_false (show ¬ a + k < s.data.toList.length by simpa using hin)]; rfl)))
          clear HG
          go_wp2_with fail
          go_ret3
          exact ⟨frontE_mk HF.out, hbY⟩
      · have hdk : decide ((k : Int) < n) = false := decide_eq_false (by omega)
        obtain rfl : k = n := by omega
        have HF := Lib.hid (HG.out.symm.trans (frGo_end s.data.toList a k f))
        clear HG
        go_wp2_with fail
        go_ret3
        exact ⟨frontE_mk HF.out, hbY⟩
theorem badGo_no {l : List UInt8} {f a : Nat} (h : a < l.length) (k : (frontU l a).2 = false) : badGo l (f + 1) a = (a : Int) + (frontU l a).1 := by
  rw [badGo, if_pos h, if_neg (by rw [k]; exact Bool.false_ne_true)]
theorem badGo_yes {l : List UInt8} {f a : Nat} (h : a < l.length) (k : (frontU l a).2 = true) : badGo l (f + 1) a = badGo l f (a + (frontU l a).1) := by
  rw [badGo, if_pos h, if_pos k]
theorem badGo_end {l : List UInt8} {f a : Nat} (h : l.length ≤ a) : badGo l f a = -1 := by
  cases f with
  | zero => rfl
  | succ f => rw [badGo, if_neg (by omega)]
/-- What walk tells: the count is left open. -/
def WalkE (l : List UInt8) (e : Ending) : Prop := ∃ c : Int, e = .returned (.tuple #[.int .i64 c, .int .i64 (badU l)])
theorem walkE_mk {l : List UInt8} {c b : Int} (h : badU l = b) : WalkE l (.returned (.tuple #[.int .i64 c, .int .i64 b])) := ⟨c, by rw [h]⟩
set_option maxRecDepth 100000 in
set_option maxHeartbeats 1600000 in
theorem uwalk_any (s : ByteArray) (w : World) (hs : s.size ≤ 4611686018427387904) :
    Calls Tryz.prog 250 #[.string s] w fun e w' => WalkE s.data.toList e ∧ Below w.heap.size w w' := by
  have hsl : s.data.toList.length = s.size := by simp
  go_enter Tryz.func250, Tryz.ntmps250
  go_wp2_with fail
  go_loopw [4, 5] (fun cnt i wr => Below w.heap.size w wr ∧ ∃ (c : Int) (a f : Nat), a ≤ s.size ∧ cnt = .int .i64 c ∧ i = .int .i64 a ∧ s.size ≤ f + a ∧ Hid (badU s.data.toList = badGo s.data.toList f a)) (fun _ i _ => s.size - (intOf i).toNat)
  case atStart => exact ⟨Below.refl _ _, 0, 0, s.size, by omega, rfl, rfl, by omega, Lib.hid (by unfold badU; rw [hsl])⟩
  case round =>
    obtain ⟨hbw, c, a, f, ha, rfl, rfl, hf, HG⟩ := hrel
    by_cases hlt : a < s.size
    · have hdk : decide ((a : Int) < s.size) = true := decide_eq_true (by omega)
      obtain ⟨f, rfl⟩ : ∃ f', f = f' + 1 := ⟨f - 1, by omega⟩
      have hfl := front_le s.data.toList a (by omega)
      have hfa := fun W => ufront_any s a W hlt hs
      unfold FrontE at hfa
      obtain ⟨n, hn⟩ : ∃ n, (frontU s.data.toList a).1 = n := ⟨_, rfl⟩
      cases hk : (frontU s.data.toList a).2
      · have HF := Lib.hid (HG.out.trans (badGo_no (f := f) (by omega) hk))
        rw [hn] at hfl HF
        rw [hk] at hfl
        simp only [hn, hk] at hfa
        clear HG hk hn hsl
        go_wp2_with (go_at_call 249; refine (hfa _).mono ?_; rintro e w1 ⟨⟨r, rfl⟩, hb1⟩)
        go_ret2
        exact ⟨walkE_mk HF.out, bl_any hbw hb1⟩
      · have HF := Lib.hid (HG.out.trans (badGo_yes (f := f) (by omega) hk))
        rw [hn] at hfl HF
        rw [hk] at hfl
        have hn1 := hfl.2.2 rfl
        simp only [hn, hk] at hfa
        clear HG hk hn
        go_wp2_with (go_at_call 249; refine (hfa _).mono ?_; rintro e w1 ⟨⟨r, rfl⟩, hb1⟩)
        exact ⟨⟨bl_any hbw hb1, _, a + n, f, by omega, rfl, rfl, by omega, HF⟩, by (simp only [intOf]; omega)⟩
    · have hdk : decide ((a : Int) < s.size) = false := decide_eq_false (by omega)
      have HF := Lib.hid (HG.out.trans (badGo_end (by omega)))
      clear HG
      go_wp2_with fail
      go_ret2
      exact ⟨walkE_mk HF.out, hbw⟩
theorem ubad_any (s : ByteArray) (w : World) (hs : s.size ≤ 4611686018427387904) :
    Calls Tryz.prog 230 #[.string s] w fun e w' => e = .returned (.int .i64 (badU s.data.toList)) ∧ Below w.heap.size w w' := by
  have h := fun W => uwalk_any s W hs
  unfold WalkE at h
  go_enter Tryz.func230, Tryz.ntmps230
  go_wp2_with (go_at_call 250; refine (h _).mono ?_; rintro e w1 ⟨⟨r, rfl⟩, hb1⟩)
  go_ret
  exact ⟨rfl, hb1⟩
end
section
/-- How far the scanner went, read from memory: a loop's measure. -/
def atOf (w : World) (g : Nat) : Nat := (intOf ((w.cell? ⟨g, 1, none⟩).getD (.bool false))).toNat
theorem Sc.atOf {w : World} {g : Nat} {s : ByteArray} {a : Nat} {no : Bool} (h : Sc w g s a no) : atOf w g = a := by
  unfold Go.Proofs.YtcapbikelgcmmaaGreatDoor.atOf
  rw [h.facts.1.2.1]; simp [intOf]
theorem word_step (l : List UInt8) (c : UInt8) (cs : List UInt8) (b : Nat) : wordS l (c :: cs) b false = wordS l cs (takeA l b false c.toNat) (!isB l b false c.toNat) := by
  conv => lhs; unfold wordS
  unfold takeA
  cases isB l b false c.toNat
  · cases cs <;> simp [wordS]
  · simp
theorem wordS_no (l w : List UInt8) (a : Nat) : wordS l w a true = (a, true) := by cases w <;> simp [wordS]
set_option maxHeartbeats 1600000 in
theorem word_any (g : Nat) (s t : ByteArray) (a : Nat) (no : Bool) (b' : Nat) (n' : Bool) (w : World) (h : Sc w g s a no) (ha : a ≤ s.size) (hs : s.size ≤ 4611686018427387904) (ht : t.size ≤ 4611686018427387904) (hR : wordS s.data.toList t.data.toList a no = (b', n')) :
    Calls Tryz.prog 57 #[.pointer (some ⟨g, 0, none⟩), .string t] w fun e w' => e = .returned (.tuple #[]) ∧ Sc w' g s b' n' ∧ Aw [g] w w' := by
  have HL : Hid (s.data.toList.length = s.size) := Lib.hid (by simp)
  have HT : Hid (t.data.toList.length = t.size) := Lib.hid (by simp)
  have HR := Lib.hid hR
  clear hR
  go_enter Tryz.func57, Tryz.ntmps57
  go_wp2_with fail
  go_loopw [4] (fun i wr => ∃ (k b : Nat) (nb : Bool), k ≤ t.size ∧ b ≤ s.size ∧ i = .int .i64 k ∧ Sc wr g s b nb ∧ Aw [g] w wr ∧ Hid (wordS s.data.toList (t.data.toList.drop k) b nb = (b', n'))) (fun i _ => t.size - (intOf i).toNat)
  case atStart => exact ⟨0, a, no, by omega, ha, rfl, h, Aw.refl _ _, HR⟩
  case round =>
    obtain ⟨k, b, nb, hk, hb, rfl, hsc, hA, HG⟩ := hrel
    clear HR h
    obtain ⟨⟨c0, c1, c2⟩, f1, f2⟩ := hsc.facts
    by_cases hlt : k < t.size
    · have hd : decide ((k : Int) < t.size) = true := decide_eq_true (by omega)
      have hk0 : (0 : Int) ≤ k := by omega
      have hk1 : (k : Int) < t.size := by omega
      cases nb
      · have hlt' : k < t.data.toList.length := by rw [HT.out]; exact hlt
        have hG := HG.out
        rw [List.drop_eq_getElem_cons hlt', word_step] at hG
        have HC : Hid ((t.data.toList[k]).toNat = (t[k]).toNat) := Lib.hid rfl
        rw [HC.out] at hG
        have kT := takes_any g s b false ((t[k]).toNat : Int)
        have hle := takeA_le s.data.toList b false ((t[k]).toNat : Int) (by rw [HL.out]; exact hb)
        rw [HL.out] at hle
        generalize takeA s.data.toList b false ((t[k]).toNat : Int) = b1 at *
        generalize isB s.data.toList b false ((t[k]).toNat : Int) = q at *
        have HF := Lib.hid hG
        clear hG HG
        go_wp2_with (go_at_call 110; refine (kT _ hsc hb hs).mono ?_; rintro e w1 ⟨rfl, h1, hA1⟩; obtain ⟨⟨d0, d1, d2⟩, g1, g2⟩ := h1.facts)
        exact ⟨⟨k + 1, b1, !q, by omega, by omega, rfl, h1.no1 _, (hA.trans hA1).setCell (.inl (by simp)) _, HF⟩, by (simp only [intOf]; omega)⟩
      · have HF := HG.out
        rw [wordS_no] at HF
        obtain ⟨rfl, rfl⟩ : b = b' ∧ true = n' := by injection HF with e1 e2; exact ⟨e1, e2⟩
        clear HF HG
        go_wp2_with fail
        go_end0
        exact ⟨rfl, hsc, hA⟩
    · have hd : decide ((k : Int) < t.size) = false := decide_eq_false (by omega)
      have HF := HG.out
      rw [List.drop_of_length_le (by rw [HT.out]; omega)] at HF
      obtain ⟨rfl, rfl⟩ : b = b' ∧ nb = n' := by unfold wordS at HF; injection HF with e1 e2; exact ⟨e1, e2⟩
      clear HF HG
      go_wp2_with fail
      go_end0
      exact ⟨rfl, hsc, hA⟩
theorem sdigit_any (c : Int) (w : World) : Calls Tryz.prog 192 #[.int .u8 c] w fun e w' => e = .returned (.bool (digB c)) ∧ w = w' := by
  have HB : Hid (digB c = (decide (48 ≤ c) && decide (c ≤ 57))) := Lib.hid rfl
  go_enter Tryz.func192, Tryz.ntmps192
  go_wp2_with fail
  all_goals
    go_ret
    exact ⟨ret_bool (by rw [HB.out]; apply bcl; simp; try omega), rfl⟩
/-- How far bytes of a class go. -/
def whN (l : List UInt8) (p : Int → Bool) (a : Nat) (no : Bool) : Nat := if no then a else whA l p a
theorem whN_le (l : List UInt8) (p : Int → Bool) (a : Nat) (no : Bool) (h : a ≤ l.length) : a ≤ whN l p a no ∧ whN l p a no ≤ l.length := by
  unfold whN; split
  · exact ⟨Nat.le_refl _, h⟩
  · exact whA_le l p a h
theorem whN_yes {l : List UInt8} {p : Int → Bool} {a : Nat} {no : Bool} (h : pkB l a no = true) (k : p (pkC l a no) = true) : whN l p a no = whN l p (a + 1) no ∧ a < l.length := by
  have h1 : no = false ∧ a < l.length := by simpa [pkB] using h
  obtain ⟨rfl, h2⟩ := h1
  unfold pkC at k; rw [h, if_pos rfl] at k
  exact ⟨whA_yes h2 k, h2⟩
theorem whN_no {l : List UInt8} {p : Int → Bool} {a : Nat} {no : Bool} (h : pkB l a no = false ∨ p (pkC l a no) = false) (hl : a ≤ l.length) : whN l p a no = a := by
  unfold whN
  cases no
  · simp only [Bool.false_eq_true, if_false]
    by_cases h2 : a < l.length
    · have h1 : pkB l a false = true := by simp [pkB, h2]
      rcases h with h | h
      · rw [h] at h1; cases h1
      · unfold pkC at h; rw [h1, if_pos rfl] at h
        exact whA_no h2 h
    · exact whA_end (by omega)
  · rfl
set_option maxHeartbeats 1600000 in
theorem while_dig (g : Nat) (s : ByteArray) (a : Nat) (no : Bool) (b' : Nat) (w : World) (h : Sc w g s a no) (ha : a ≤ s.size) (hs : s.size ≤ 4611686018427387904) (hR : whN s.data.toList digB a no = b') :
    Calls Tryz.prog 196 #[.pointer (some ⟨g, 0, none⟩), .func (.func 192) #[] #[]] w fun e w' => e = .returned (.string (s.extract a b')) ∧ Sc w' g s b' no ∧ Aw [g] w w' := by
  have HL : Hid (s.data.toList.length = s.size) := Lib.hid (by simp)
  have HR := Lib.hid hR
  have ha0 : (0 : Int) ≤ a := by omega
  clear hR
  obtain ⟨⟨c0, c1, c2⟩, f1, f2⟩ := h.facts
  go_enter Tryz.func196, Tryz.ntmps196
  go_wp2_with fail
  go_loopw [6] (fun _ wr => ∃ b : Nat, a ≤ b ∧ b ≤ s.size ∧ Sc wr g s b no ∧ Aw [g] w wr ∧ Hid (whN s.data.toList digB b no = b')) (fun _ wr => s.size - atOf wr g)
  case atStart => exact ⟨a, Nat.le_refl _, ha, h, Aw.refl _ _, HR⟩
  case round =>
    obtain ⟨b, hab, hb, hsc, hA, HG⟩ := hrel
    clear HR h c0 c1 c2 f1 f2
    have kP := peek_any g s b no
    have hy := fun h1 h2 => whN_yes (l := s.data.toList) (p := digB) (a := b) (no := no) h1 h2
    have hn := fun h1 => whN_no (l := s.data.toList) (p := digB) (a := b) (no := no) h1 (by rw [HL.out]; exact hb)
    have hab' : (a : Int) ≤ b := by omega
    have hb' : (b : Int) ≤ s.size := by omega
    have hat := hsc.atOf
    cases hq : pkB s.data.toList b no
    · have HF := HG.out
      rw [hn (.inl hq)] at HF
      subst HF
      rw [hq] at kP
      clear hq hy hn HG hat
      generalize pkC s.data.toList b no = c at kP
      go_wp2_with (go_at_call 147; refine (kP _ hsc hb hs).mono ?_; rintro e w1 ⟨rfl, h1, hA1⟩; obtain ⟨⟨d0, d1, d2⟩, g1, g2⟩ := h1.facts)
      go_quiet (fail)
      go_wp2_with fail
      go_ret
      exact ⟨rfl, h1.drewN _, (hA.trans (hA1.mono (by simp))).drewN _⟩
    · rw [hq] at kP
      cases hp : digB (pkC s.data.toList b no)
      · have HF := HG.out
        rw [hn (.inr hp)] at HF
        subst HF
        clear hq hy hn HG hat
        generalize pkC s.data.toList b no = c at kP hp
        go_wp2_with (first
          | (go_at_call 147; refine (kP _ hsc hb hs).mono ?_; rintro e w1 ⟨rfl, h1, hA1⟩)
          | (go_at_call 192; refine (sdigit_any c _).mono ?_; rintro e w2 ⟨rfl, rfl⟩; rw [hp]; obtain ⟨⟨d0, d1, d2⟩, g1, g2⟩ := h1.facts))
        go_quiet (fail)
        go_wp2_with fail
        go_ret
        exact ⟨rfl, h1.drewN _, (hA.trans (hA1.mono (by simp))).drewN _⟩
      · obtain ⟨e1, e2⟩ := hy hq hp
        have HF := Lib.hid (e1.symm.trans HG.out)
        rw [HL.out] at e2
        clear hq hy hn HG e1
        generalize pkC s.data.toList b no = c at kP hp
        go_wp2_with (first
          | (go_at_call 147; refine (kP _ hsc hb hs).mono ?_; rintro e w1 ⟨rfl, h1, hA1⟩)
          | (go_at_call 192; refine (sdigit_any c _).mono ?_; rintro e w2 ⟨rfl, rfl⟩; rw [hp]; obtain ⟨⟨d0, d1, d2⟩, g1, g2⟩ := h1.facts))
        exact ⟨⟨b + 1, by omega, by omega, h1.at1, (hA.trans (hA1.mono (by simp))).setCell (.inl (by simp)) _, HF⟩, by (rw [h1.at1.atOf, hat]; omega)⟩
set_option maxHeartbeats 1600000 in
theorem some_dig (g : Nat) (s : ByteArray) (a : Nat) (no : Bool) (b' : Nat) (n' : Bool) (w : World) (h : Sc w g s a no) (ha : a ≤ s.size) (hs : s.size ≤ 4611686018427387904) (hR : someS s.data.toList digB a no = (b', n')) :
    Calls Tryz.prog 152 #[.pointer (some ⟨g, 0, none⟩), .func (.func 192) #[] #[]] w fun e w' => e = .returned (.string (s.extract a b')) ∧ Sc w' g s b' n' ∧ Aw [g] w w' := by
  have hL : s.data.toList.length = s.size := by simp
  have hw : whN s.data.toList digB a no = b' := by
    unfold whN; unfold someS at hR
    cases no
    · simp only [Bool.false_eq_true, if_false] at hR ⊢; injection hR
    · simp only [if_true] at hR ⊢; injection hR
  have kW := while_dig g s a no b'
  have hle := whN_le s.data.toList digB a no (by rw [hL]; exact ha)
  rw [hw, hL] at hle
  cases no
  · have hn : (b' == a) = n' := by
      unfold someS at hR
      simp only [Bool.false_eq_true, if_false] at hR
      injection hR with e1 e2
      rw [← e2, e1]
    have h3 : (s.extract a b').data.toList.length = b' - a := by simp; omega
    have h4 : ((s.extract a b').toList == []) = n' := by
      rw [ByteArray.toList_eq, ← hn]
      apply bcl
      rw [beq_iff_eq, beq_iff_eq, ← List.length_eq_zero_iff, h3]
      omega
    have h5 : (s.extract a b').toList.isEmpty = n' := by
      rw [← h4]
      cases (s.extract a b').toList <;> rfl
    clear hR hn h3 hL
    generalize s.extract a b' = t at h4 h5 kW ⊢
    go_enter Tryz.func152, Tryz.ntmps152
    go_wp2_with (go_at_call 196; refine (kW _ h ha hs hw).mono ?_; rintro e w1 ⟨rfl, h1, hA1⟩; obtain ⟨⟨d0, d1, d2⟩, g1, g2⟩ := h1.facts)
    go_ret
    exact ⟨rfl, h1.no1 _, hA1.setCell (.inl (by simp)) _⟩
  · obtain rfl : true = n' := by unfold someS at hR; simp only [if_true] at hR; injection hR
    clear hR hL
    generalize s.extract a b' = t at kW ⊢
    go_enter Tryz.func152, Tryz.ntmps152
    go_wp2_with (go_at_call 196; refine (kW _ h ha hs hw).mono ?_; rintro e w1 ⟨rfl, h1, hA1⟩; obtain ⟨⟨d0, d1, d2⟩, g1, g2⟩ := h1.facts)
    go_ret
    exact ⟨rfl, h1.no1 true, hA1.setCell (.inl (by simp)) _⟩
end
section
open Go.RowKit
theorem Tryz.sizeBuilder : (Tryz.prog.info? 247).map (·.size) = some 2 := by kernel_rfl
theorem Tryz.liesBuilder : liesAt Tryz.prog Tryz.prog.depth 247 (2 / Tryz.prog.cellsOf 247) 0 247 1 = true := by kernel_rfl
set_option maxHeartbeats 1000000 in
set_option maxRecDepth 100000 in
theorem bcopy_used (b : Nat) (w : World) (h0 : w.cell? ⟨b, 0, none⟩ = some (.pointer (some ⟨b, 0, none⟩))) :
    Calls Tryz.prog 228 #[.pointer (some ⟨b, 0, none⟩)] w fun e w' => e = .returned (.tuple #[]) ∧ w' = w := by
  obtain ⟨j, hj, _⟩ := Option.map_eq_some_iff.1 Tryz.sizeBuilder
  have tp : Tryz.prog.underlying 245 = some (.pointer 247) := by kernel_rfl
  go_enter Tryz.func228, Tryz.ntmps228
  go_wp2
  rw [Lib.run_neq_ptr_same w _ tp hj]
  go_wp2
  go_end0
  exact ⟨rfl, rfl⟩
set_option maxHeartbeats 1000000 in
set_option maxRecDepth 100000 in
theorem bcopy_fresh (b : Nat) (w : World) (h0 : w.cell? ⟨b, 0, none⟩ = some (.pointer none)) (hsh : w.shape? b = some (247, 2)) (hfz : w.frozen? ⟨b, 0, none⟩ = false) :
    Calls Tryz.prog 228 #[.pointer (some ⟨b, 0, none⟩)] w fun e w' => e = .returned (.tuple #[]) ∧ w' = w.setCell ⟨b, 0, none⟩ (.pointer (some ⟨b, 0, none⟩)) := by
  obtain ⟨j, hj, hjs⟩ := Option.map_eq_some_iff.1 Tryz.sizeBuilder
  have tp : Tryz.prog.underlying 245 = some (.pointer 247) := by kernel_rfl
  have tu : Tryz.prog.underlying 290 = some .unsafePointer := by kernel_rfl
  go_enter Tryz.func228, Tryz.ntmps228
  go_wp2
  rw [Lib.run_to_unsafe w ⟨b, 0, none⟩ tp tu hj (by rw [hjs]; decide) hsh (Nat.zero_lt_succ 1)]
  simp only [Result.andThen]
  rw [Oper.upon_value]
  go_wp2
  rw [run_callFunc_extern Tryz.func248 (by kernel_rfl) (by kernel_rfl) (by kernel_rfl) (e := Extern.AbiNoEscape.same) (by kernel_rfl)]
  rw [Lib.run_noEscape]
  simp only [Result.andThen]
  rw [Oper.upon_value]
  go_wp2
  rw [Lib.run_from_unsafe w ⟨b, 0, none⟩ tu tp hj hsh Tryz.liesBuilder]
  simp only [Result.andThen]
  rw [Oper.upon_value]
  go_wp2
  go_end0
  exact ⟨rfl, rfl⟩
theorem bcopy_any (B b : Nat) (bs : List Value) (w : World) (h : Lib.IsBuilder 247 5 B b bs w) :
    Calls Tryz.prog 228 #[.pointer (some ⟨b, 0, none⟩)] w fun e w' => e = .returned (.tuple #[]) ∧ (Lib.BuilderAt 247 5 B b (.pointer (some ⟨b, 0, none⟩)) bs w' ∧ Below B w w') := by
  rcases h with h | h
  · refine (bcopy_fresh b w h.cell0 h.shape h.frozen0).mono ?_
    rintro e w' ⟨rfl, rfl⟩
    exact ⟨rfl, h.used _, (Below.refl B w).setCell (p := ⟨b, 0, none⟩) h.1 _⟩
  · refine (bcopy_used b w h.cell0).mono ?_
    rintro e w' ⟨rfl, rfl⟩
    exact ⟨rfl, h, Below.refl B _⟩
set_option maxHeartbeats 2000000 in
set_option maxRecDepth 100000 in
theorem wstr_any (B b : Nat) (bs : List Value) (s : ByteArray) (w : World) (h : Lib.IsBuilder 247 5 B b bs w) (hlen : bs.length + s.size ≤ 140737488355328) (hBw : B ≤ w.heap.size) :
    Calls Tryz.prog 198 #[.pointer (some ⟨b, 0, none⟩), .string s] w fun e w' => e = .returned (.tuple #[.int .i64 s.size, .nilIface]) ∧ (Lib.BuilderAt 247 5 B b (.pointer (some ⟨b, 0, none⟩)) (bs ++ Lib.strCells s) w' ∧ Below B w w') := by
  obtain ⟨i0, hi, hz0, hz1, hz2⟩ := info_parts Tryz.infoByte
  have ts : Tryz.prog.underlying 59 = some (.slice 5) := by kernel_rfl
  have tg : Tryz.prog.underlying 9 = some .string := by kernel_rfl
  go_enter Tryz.func198, Tryz.ntmps198
  go_wp2_with (go_at_call 228; refine (bcopy_any B b bs _ h).mono ?_)
  rintro e w1 ⟨rfl, h1, hb1⟩
  obtain ⟨hB, v, hbk, hown, hne⟩ := h1
  have c0 : w1.cell? ⟨b, 0, none⟩ = some (.pointer (some ⟨b, 0, none⟩)) := by rw [Lib.cell_of_heap hbk]; rfl
  have c1 : w1.cell? ⟨b, 1, none⟩ = some v := by rw [Lib.cell_of_heap hbk]; rfl
  go_wp2_with (at_builtin; refine Lib.wpList_append_own_string _ rfl _ _ 59 9 rfl B 5 i0 ts tg hi hz0 hz1 hz2 _ _ _ rfl hown s rfl ?c3 ?c4 ?c5 ?_)
  case c3 => unfold maxLen; omega
  case c4 => omega
  case c5 => have := hb1.size; omega
  intro v' w2 hown' hgrow _
  have hlt : b < w1.heap.size := by
    rcases Nat.lt_or_ge b w1.heap.size with h' | h'
    · exact h'
    · simp [Array.getElem?_eq_none h'] at hbk
  have hb2 : w2.heap[b]? = some (.cells #[.pointer (some ⟨b, 0, none⟩), v] 247 (0, 0)) := by
    rw [hgrow.block b hlt (fun e => hne e.symm)]
    exact hbk
  have d0 : w2.cell? ⟨b, 0, none⟩ = some (.pointer (some ⟨b, 0, none⟩)) := by rw [Lib.cell_of_heap hb2]; rfl
  have d1 : w2.cell? ⟨b, 1, none⟩ = some v := by rw [Lib.cell_of_heap hb2]; rfl
  have f1 : w2.frozen? ⟨b, 1, none⟩ = false := Lib.frozen_of_heap hb2 1
  obtain ⟨ao, n', cap, rfl⟩ : ∃ ao n' cap, v' = .slice ao n' cap := by
    rcases hown'.2 with ⟨hv, _⟩ | ⟨g, cap, cur, hv, _⟩
    · exact ⟨_, _, _, hv⟩
    · exact ⟨_, _, _, hv⟩
  go_wp2
  go_ret2
  refine ⟨rfl, ?_, ?_⟩
  · exact Lib.BuilderAt.put (T := 247) (e := 5) hB hb2 (bs' := bs ++ Lib.strCells s) (by simpa [Lib.strCells_length] using hown') (by decide)
  · exact (hb1.grown hgrow (by have := hb1.size; omega) (fun k hk => (hown.lt k hk).1)).setCell (p := ⟨b, 1, none⟩) hB _
end
section
theorem numS_eq (l : List UInt8) (a : Nat) (no : Bool) : numS l a no = someS l digB (takeA l a no 45) no := by
  cases no
  · rfl
  · simp [numS, someS, takeA, isB, pkB]
set_option maxHeartbeats 1600000 in
theorem whole_any (g : Nat) (s : ByteArray) (a : Nat) (no : Bool) (b' : Nat) (n' : Bool) (w : World) (h : Sc w g s a no) (ha : a ≤ s.size) (hs : s.size ≤ 4611686018427387904) (hR : numS s.data.toList a no = (b', n')) :
    Calls Tryz.prog 195 #[.pointer (some ⟨g, 0, none⟩)] w fun e w' => e = .returned (.string (s.extract a b')) ∧ Sc w' g s b' n' ∧ Aw [g] w w' := by
  have hL : s.data.toList.length = s.size := by simp
  have hle := takeA_le s.data.toList a no 45 (by rw [hL]; exact ha)
  have hle2 := numS_le s.data.toList a no (by rw [hL]; exact ha)
  rw [numS_eq] at hR
  rw [numS_eq, hR, hL] at hle2
  rw [hL] at hle
  have kT := takes_any g s a no 45
  obtain ⟨c, hc⟩ : ∃ c, takeA s.data.toList a no 45 = c := ⟨_, rfl⟩
  rw [hc] at kT hR hle
  have kS := fun w h => some_dig g s c no b' n' w h hle.2 hs hR
  have ha0 : (0 : Int) ≤ a := by omega
  have hab : (a : Int) ≤ b' := by have := hle2.1; simp only at this; omega
  have hbs : (b' : Int) ≤ s.size := by have := hle2.2; simp only at this; omega
  obtain ⟨⟨c0, c1, c2⟩, f1, f2⟩ := h.facts
  clear hR hc hL hle2
  go_enter Tryz.func195, Tryz.ntmps195
  go_wp2_with (first
    | (go_at_call 110; refine (kT _ h ha hs).mono ?_; rintro e w1 ⟨rfl, h1, hA1⟩)
    | (go_at_call 152; refine (kS _ h1).mono ?_; rintro e w2 ⟨rfl, h2, hA2⟩; obtain ⟨⟨d0, d1, d2⟩, g1, g2⟩ := h2.facts))
  go_quiet (fail)
  go_wp2_with fail
  go_ret
  exact ⟨rfl, h2.drewN _, (hA1.trans hA2).drewN _⟩
set_option maxHeartbeats 1600000 in
theorem dec_any (g : Nat) (s : ByteArray) (a : Nat) (no : Bool) (b' : Nat) (n' : Bool) (w : World) (h : Sc w g s a no) (ha : a ≤ s.size) (hs : s.size ≤ 4611686018427387904) (hR : decS s.data.toList a no = (b', n')) :
    Calls Tryz.prog 151 #[.pointer (some ⟨g, 0, none⟩)] w fun e w' => e = .returned (.string (s.extract a b')) ∧ Sc w' g s b' n' ∧ Aw [g] w w' := by
  have hL : s.data.toList.length = s.size := by simp
  have hle2 := decS_le s.data.toList a no (by rw [hL]; exact ha)
  have hle := numS_le s.data.toList a no (by rw [hL]; exact ha)
  rw [hR, hL] at hle2
  rw [hL] at hle
  have hab : (a : Int) ≤ b' := by have := hle2.1; simp only at this; omega
  have hbs : (b' : Int) ≤ s.size := by have := hle2.2; simp only at this; omega
  have ha0 : (0 : Int) ≤ a := by omega
  obtain ⟨c, n1, hc⟩ : ∃ c n1, numS s.data.toList a no = (c, n1) := ⟨_, _, rfl⟩
  have kW := fun w h => whole_any g s a no c n1 w h ha hs hc
  unfold decS at hR
  rw [hc] at hR hle
  simp only at hR hle
  have kT := takes_any g s c n1 46
  obtain ⟨⟨c0, c1, c2⟩, f1, f2⟩ := h.facts
  cases n1
  · simp only [Bool.false_eq_true, if_false] at hR
    unfold takeA at kT
    cases hq : isB s.data.toList c false 46
    · rw [hq] at kT hR
      simp only [Bool.false_eq_true, if_false] at kT hR
      obtain ⟨rfl, rfl⟩ : c = b' ∧ false = n' := by injection hR with e1 e2; exact ⟨e1, e2⟩
      clear hR hc hL hq hle2
      go_enter Tryz.func151, Tryz.ntmps151
      go_wp2_with (first
        | (go_at_call 195; refine (kW _ h).mono ?_; rintro e w1 ⟨rfl, h1, hA1⟩)
        | (go_at_call 110; refine (kT _ h1 hle.2 hs).mono ?_; rintro e w2 ⟨rfl, h2, hA2⟩; obtain ⟨⟨d0, d1, d2⟩, g1, g2⟩ := h2.facts))
      go_quiet (fail)
      go_wp2_with fail
      go_ret
      exact ⟨rfl, h2.drewN _, (hA1.trans hA2).drewN _⟩
    · have hlt := (isB_lt hq).1
      rw [hL] at hlt
      rw [hq] at kT hR
      simp only [if_true] at kT hR
      have kS := fun w h => some_dig g s (c + 1) false b' n' w h hlt hs hR
      clear hR hc hL hq hle2
      go_enter Tryz.func151, Tryz.ntmps151
      go_wp2_with (first
        | (go_at_call 195; refine (kW _ h).mono ?_; rintro e w1 ⟨rfl, h1, hA1⟩)
        | (go_at_call 110; refine (kT _ h1 hle.2 hs).mono ?_; rintro e w2 ⟨rfl, h2, hA2⟩)
        | (go_at_call 152; refine (kS _ h2).mono ?_; rintro e w3 ⟨rfl, h3, hA3⟩; obtain ⟨⟨d0, d1, d2⟩, g1, g2⟩ := h3.facts))
      go_quiet (fail)
      go_wp2_with fail
      go_ret
      exact ⟨rfl, h3.drewN _, ((hA1.trans hA2).trans hA3).drewN _⟩
  · simp only [if_true] at hR
    obtain ⟨rfl, rfl⟩ : c = b' ∧ true = n' := by injection hR with e1 e2; exact ⟨e1, e2⟩
    rw [show takeA s.data.toList c true 46 = c from rfl, show isB s.data.toList c true 46 = false from rfl] at kT
    clear hR hc hL hle2
    go_enter Tryz.func151, Tryz.ntmps151
    go_wp2_with (first
      | (go_at_call 195; refine (kW _ h).mono ?_; rintro e w1 ⟨rfl, h1, hA1⟩)
      | (go_at_call 110; refine (kT _ h1 hle.2 hs).mono ?_; rintro e w2 ⟨rfl, h2, hA2⟩; obtain ⟨⟨d0, d1, d2⟩, g1, g2⟩ := h2.facts))
    go_quiet (fail)
    go_wp2_with fail
    go_ret
    exact ⟨rfl, h2.drewN _, (hA1.trans hA2).drewN _⟩
theorem ext_bytes (s : ByteArray) (a b : Nat) : (s.extract a b).data.toList = (s.data.toList.drop a).take (b - a) := by
  rw [ByteArray.data_extract, Array.toList_extract, List.extract_eq_take_drop]
/-- What utf.Next tells: the scalar is left open. -/
def NextE (n : Nat) (ok : Bool) (e : Ending) : Prop := ∃ r : Int, e = .returned (.tuple #[.int .i32 r, .int .i64 (n : Int), .bool ok])
set_option maxHeartbeats 1600000 in
theorem unext_any (s : ByteArray) (a n : Nat) (ok : Bool) (w : World) (ha : a < s.size) (hs : s.size ≤ 4611686018427387904) (hf : frontU s.data.toList a = (n, ok)) :
    Calls Tryz.prog 229 #[.string s, .int .i64 a] w fun e w' => NextE (if ok then n else 0) ok e ∧ Below w.heap.size w w' := by
  have k := fun W => ufront_any s a W ha hs
  unfold FrontE at k
  rw [hf] at k
  have ha0 : (0 : Int) ≤ a := by omega
  have ha1 : (a : Int) < s.size := by omega
  cases ok
  all_goals
    clear hf
    go_enter Tryz.func229, Tryz.ntmps229
    go_wp2_with (go_at_call 249; refine (k _).mono ?_; rintro e w1 ⟨⟨r, rfl⟩, hb1⟩)
    go_ret3
    exact ⟨⟨_, rfl⟩, hb1⟩
theorem bt_take4 (l : List UInt8) (a k : Nat) (hk : k < 4) : bt ((l.drop a).take 4) k = bt l (a + k) := by
  unfold bt
  rw [List.getD_eq_getElem?_getD, List.getD_eq_getElem?_getD, List.getElem?_take_of_lt hk, List.getElem?_drop]
theorem tail_take4 (l : List UInt8) (a k : Nat) (hk : k < 4) : tailB ((l.drop a).take 4) 0 k = tailB l a k := by
  have h0 := bt_take4 l a 0 (by omega)
  have h1 := bt_take4 l a k hk
  have h2 : decide (0 + k < ((l.drop a).take 4).length) = decide (a + k < l.length) := by
    apply decide_eq_decide.2
    rw [List.length_take, List.length_drop]; omega
  unfold tailB
  rw [h2, h0, Nat.zero_add, h1, Nat.add_zero]
theorem frGo_take4 (l : List UInt8) (a n : Nat) (hn : n ≤ 4) : ∀ f k, frGo ((l.drop a).take 4) 0 n f k = frGo l a n f k
  | 0, k => rfl
  | f + 1, k => by
    unfold frGo
    by_cases hk : k < n
    · rw [if_pos hk, if_pos hk, tail_take4 l a k (by omega), frGo_take4 l a n hn f (k + 1)]
    · rw [if_neg hk, if_neg hk]
theorem front_take4 (l : List UInt8) (a : Nat) : frontU ((l.drop a).take 4) 0 = frontU l a := by
  unfold frontU
  have h0 := bt_take4 l a 0 (by omega)
  rw [Nat.add_zero] at h0
  rw [h0, frGo_take4 l a _ (uSize_le _)]
theorem bad_take4 (l : List UInt8) (a n : Nat) (ha : a < l.length) (h : frontU l a = (n, false)) : badU ((l.drop a).take 4) = n := by
  have hl : ((l.drop a).take 4).length = min 4 (l.length - a) := by rw [List.length_take, List.length_drop]
  unfold badU
  obtain ⟨f, hf⟩ : ∃ f, ((l.drop a).take 4).length = f + 1 := ⟨((l.drop a).take 4).length - 1, by omega⟩
  rw [hf, badGo_no (by omega) (by rw [front_take4, h])]
  rw [front_take4, h]
  show (0 : Int) + (n : Nat) = n
  omega
/-- The scanner's cells and frame, as a region holds them. -/
def ScH (w0 : World) (g : Nat) (s : ByteArray) (a : Nat) (no : Bool) (w : World) : Prop := Sc w g s a no ∧ Aw [g] w0 w
theorem ScH.drew {w0 : World} {g : Nat} {s : ByteArray} {a : Nat} {no : Bool} {w : World} (h : ScH w0 g s a no w) : ScH w0 g s a no w.drew := ⟨h.1.drew, h.2.drew⟩
theorem ScH.bel {w0 : World} {g : Nat} {s : ByteArray} {a : Nat} {no : Bool} {w w' : World} (h : ScH w0 g s a no w) (k : Below w.heap.size w w') : ScH w0 g s a no w' := ⟨h.1.below k h.1.lt, h.2.bel k⟩
theorem ScH.full {w0 : World} {g : Nat} {s : ByteArray} {a : Nat} {no : Bool} {w : World} (h : ScH w0 g s a no w) : (w.cell? ⟨g, 0, none⟩ = some (.string s) ∧ w.cell? ⟨g, 1, none⟩ = some (.int .i64 (a : Int))) ∧ ScH w0 g s a no w := ⟨⟨h.1.facts.1.1, h.1.facts.1.2.1⟩, h⟩
set_option maxRecDepth 100000 in
set_option maxHeartbeats 3200000 in
theorem scalar_any (g : Nat) (s : ByteArray) (a n : Nat) (ok : Bool) (w : World) (h : Sc w g s a false) (ha : a < s.size) (hs : s.size ≤ 4611686018427387904) (hf : frontU s.data.toList a = (n, ok)) :
    Calls Tryz.prog 200 #[.pointer (some ⟨g, 0, none⟩)] w fun e w' => e = .returned (.string (s.extract a (a + n))) ∧ Sc w' g s (a + n) (!ok) ∧ Aw [g] w w' := by
  have hL : s.data.toList.length = s.size := by simp
  have kN := fun W => unext_any s a n ok W ha hs hf
  have hfl := front_le s.data.toList a (by rw [hL]; exact ha)
  rw [hf, hL] at hfl
  have hH0 : ScH w g s a false w := ⟨h, Aw.refl _ _⟩
  have ha0 : (0 : Int) ≤ a := by omega
  have hn0 : (a : Int) + n ≤ s.size := by have := hfl.2.1; simp only at this; omega
  have hw1 : IntKind.i64.wrap (a : Int) = a := IntWalk.i64_in _ (by omega)
  have hw2 : ((a : Int) + n).toNat = a + n := by omega
  have hw3 : (a : Int) ≤ a + n := by omega
  cases ok
  · obtain ⟨m, hm⟩ : ∃ m, min s.size (a + 4) = m := ⟨_, rfl⟩
    have hb : badU (s.extract a m).data.toList = n := by
      rw [← hm, ext_bytes, show (s.data.toList.drop a).take (min s.size (a + 4) - a) = (s.data.toList.drop a).take 4 by
        rcases Nat.le_total s.size (a + 4) with k | k
        · rw [Nat.min_eq_left k, List.take_of_length_le (by simp), List.take_of_length_le (by simp; omega)]
        · rw [Nat.min_eq_right k, show a + 4 - a = 4 by omega]]
      exact bad_take4 _ _ _ (by rw [hL]; exact ha) hf
    have kB := fun W => ubad_any (s.extract a m) W (by simp; omega)
    rw [hb] at kB
    have hmi : min (s.size : Int) ((a : Int) + 4) = (m : Int) := by omega
    have hw4 : IntKind.i64.wrap ((a : Int) + 4) = (a : Int) + 4 := IntWalk.i64_in _ (by omega)
    have hm0 : (a : Int) ≤ m := by omega
    have hm1 : (m : Int) ≤ s.size := by omega
    clear hb hf hL hfl hm
    go_enter Tryz.func200, Tryz.ntmps200
    go_wp2_with fail
    go_region_held3 (fun w' => (w'.cell? ⟨g, 0, none⟩ = some (.string s) ∧ w'.cell? ⟨g, 1, none⟩ = some (.int .i64 (a : Int))) ∧ ScH w g s a false w') ((first | assumption | exact hH0.full | exact hH0.drew.full | exact (ScH.drew (And.right ‹_›)).full)) (first
      | (go_at_call 229; refine (kN _).mono ?_; rintro e w1 ⟨⟨r, rfl⟩, hb1⟩; have hH1 := ScH.bel (And.right ‹_›) hb1; have hH1' := hH1.full))
    go_wp2_with fail
    go_region_held3 (fun w' => (w'.cell? ⟨g, 0, none⟩ = some (.string s) ∧ w'.cell? ⟨g, 1, none⟩ = some (.int .i64 (a : Int))) ∧ ScH w g s a false w') ((first | assumption | exact hH1.drew.full | exact (ScH.drew (And.right ‹_›)).full)) (first
      | (go_at_call 230; refine (kB _).mono ?_; rintro e w2 ⟨rfl, hb2⟩; have hH2 := ScH.bel (And.right ‹_›) hb2; have hH2' := hH2.full))
    obtain ⟨hs2, hA2⟩ := hH2
    obtain ⟨⟨c0, c1, c2⟩, f1, f2⟩ := hs2.facts
    clear hH1 hH1' hH2' hH0 hmi hw4
    go_wp2_with fail
    have h3 := (hs2.no1 true).atN (a + n)
    have hA3 : Aw [g] w ((w2.setCell ⟨g, 2, none⟩ (.bool true)).setCell ⟨g, 1, none⟩ (.int .i64 ((a + n : Nat) : Int))) := (hA2.setCell (.inl (by simp)) _).setCell (.inl (by simp)) _
    rw [show (((a + n : Nat) : Int)) = (a : Int) + n by omega] at h3 hA3
    generalize ((w2.setCell ⟨g, 2, none⟩ (.bool true)).setCell ⟨g, 1, none⟩ (.int .i64 ((a : Int) + n))) = w3 at h3 hA3 ⊢
    obtain ⟨⟨d0, d1, d2⟩, _, _⟩ := h3.facts
    rw [show (((a + n : Nat) : Int)) = (a : Int) + n by omega] at d1
    clear c0 c1 c2 f1 f2
    go_quiet (fail)
    go_wp2_with fail
    go_ret
    exact ⟨rfl, h3.drewN _, hA3.drewN _⟩
  · clear hf hL hfl
    go_enter Tryz.func200, Tryz.ntmps200
    go_wp2_with fail
    go_region_held3 (fun w' => (w'.cell? ⟨g, 0, none⟩ = some (.string s) ∧ w'.cell? ⟨g, 1, none⟩ = some (.int .i64 (a : Int))) ∧ ScH w g s a false w') ((first | assumption | exact hH0.full | exact hH0.drew.full | exact (ScH.drew (And.right ‹_›)).full)) (first
      | (go_at_call 229; refine (kN _).mono ?_; rintro e w1 ⟨⟨r, rfl⟩, hb1⟩; have hH1 := ScH.bel (And.right ‹_›) hb1; have hH1' := hH1.full))
    obtain ⟨hs2, hA2⟩ := hH1
    obtain ⟨⟨c0, c1, c2⟩, f1, f2⟩ := hs2.facts
    clear hH1' hH0
    go_wp2_with fail
    have h3 := hs2.atN (a + n)
    have hA3 : Aw [g] w (w1.setCell ⟨g, 1, none⟩ (.int .i64 ((a + n : Nat) : Int))) := hA2.setCell (.inl (by simp)) _
    rw [show (((a + n : Nat) : Int)) = (a : Int) + n by omega] at h3 hA3
    generalize (w1.setCell ⟨g, 1, none⟩ (.int .i64 ((a : Int) + n))) = w3 at h3 hA3 ⊢
    obtain ⟨⟨d0, d1, d2⟩, _, _⟩ := h3.facts
    rw [show (((a + n : Nat) : Int)) = (a : Int) + n by omega] at d1
    clear c0 c1 c2 f1 f2
    go_quiet (fail)
    go_wp2_with fail
    go_ret
    exact ⟨rfl, h3.drewN _, hA3.drewN _⟩
end
section
theorem idx_any (m : List UInt8) (c : Int) (h0 : 0 ≤ c) (h1 : c ≤ 255) : (m.any fun d => c == d.toNat) = decide (0 ≤ Lib.indexByte m c.toNat.toUInt8) := by
  apply bcl
  rw [decide_eq_true_eq]
  have := idxB_mem m c h0 h1
  unfold idxB at this
  rw [this, List.any_eq_true]
  simp only [beq_iff_eq]
theorem conv_byte (W : World) (x : UInt8) : (convert 59 9 (.slice (some ⟨W.heap.size, 0, none⟩) 1 1)).run Tryz.prog (W.alloc (.cells #[.int .u8 (x.toNat : Int)] 5)) = .ok (.string ⟨#[x]⟩) (W.alloc (.cells #[.int .u8 (x.toNat : Int)] 5)) := by
  have h1 : Tryz.prog.underlying 59 = some (.slice 5) := by kernel_rfl
  have h2 : Tryz.prog.underlying 5 = some (.int .u8) := by kernel_rfl
  have h3 : Tryz.prog.underlying 9 = some .string := by kernel_rfl
  exact run_convert_bytes_back (P := Tryz.prog) (W.alloc (.cells #[.int .u8 (x.toNat : Int)] 5)) _ _ _ ⟨W.heap.size, 0, none⟩ 1 [x] h1 h2 h3 fun j hj => by
    have hj0 : j = 0 := by simpa using hj
    subst hj0
    have h4 : (⟨W.heap.size, 0, none⟩ : Addr).add 0 = ⟨W.heap.size, 0, none⟩ := by unfold Addr.add; split <;> simp_all
    rw [h4, (Blk.new W _ _).cell 0]
    rfl
theorem conv_byte2 (W : World) (p : Addr) (u : Value) (x : UInt8) : (convert 59 9 (.slice (some ⟨W.heap.size, 0, none⟩) 1 1)).run Tryz.prog ((W.setCell p u).alloc (.cells #[.int .u8 (x.toNat : Int)] 5)) = .ok (.string ⟨#[x]⟩) ((W.setCell p u).alloc (.cells #[.int .u8 (x.toNat : Int)] 5)) := by
  have h := conv_byte (W.setCell p u) x
  have e : (W.setCell p u).heap.size = W.heap.size := by simp [World.setCell]
  rw [e] at h
  exact h
theorem bt_u8 (l : List UInt8) (a : Nat) : bt l a = ((l.getD a 0).toNat : Int) := rfl
set_option maxRecDepth 100000 in
set_option maxHeartbeats 1600000 in
theorem behind_any (g : Nat) (s m : ByteArray) (a : Nat) (w : World) (h : Sc w g s a false) (ha : a < s.size) (hs : s.size ≤ 4611686018427387904) :
    Calls Tryz.prog 199 #[.pointer (some ⟨g, 0, none⟩), .string m] w fun e w' => e = .returned (.string (if escB s.data.toList m.data.toList a then ⟨#[if bt s.data.toList (a + 1) = 110 then 10 else s.data.toList.getD (a + 1) 0]⟩ else ⟨#[]⟩)) ∧ Sc w' g s (if escB s.data.toList m.data.toList a then a + 2 else a + 1) (!escB s.data.toList m.data.toList a) ∧ Aw [g] w w' := by
  have hL : s.data.toList.length = s.size := by simp
  have h1 := h.at1
  have hA0 : Aw [g] w (w.setCell ⟨g, 1, none⟩ (.int .i64 ((a : Int) + 1))) := (Aw.refl _ _).setCell (.inl (by simp)) _
  obtain ⟨⟨c0, c1, c2⟩, f1, f2⟩ := h.facts
  have kP := fun W h => peek_any g s (a + 1) false W h (by omega) hs
  have hb0 := bt_nonneg s.data.toList (a + 1)
  have hb1 := bt_le s.data.toList (a + 1)
  have hx := idx_any m.data.toList (bt s.data.toList (a + 1)) hb0 hb1
  have kI := fun W => Tryz.strings_IndexByte m (bt s.data.toList (a + 1)) W
  by_cases hlt : a + 1 < s.size
  · have hp : pkB s.data.toList (a + 1) false = true := by simp [pkB, hlt]
    have hc : pkC s.data.toList (a + 1) false = bt s.data.toList (a + 1) := by unfold pkC; rw [hp]; rfl
    rw [hp, hc] at kP
    have he : escB s.data.toList m.data.toList a = decide (0 ≤ Lib.indexByte m.data.toList (bt s.data.toList (a + 1)).toNat.toUInt8) := by
      unfold escB; rw [← hx, decide_eq_true (by rw [hL]; exact hlt)]; rfl
    rw [he]
    clear he hx hp hc hL
    generalize Lib.indexByte m.data.toList (bt s.data.toList (a + 1)).toNat.toUInt8 = ix at kI ⊢
    have hcv := fun W p u => conv_byte2 W p u (s.data.toList.getD (a + 1) 0)
    rw [← bt_u8] at hcv
    generalize bt s.data.toList (a + 1) = c at kI kP hcv hb0 hb1 ⊢
    generalize s.data.toList.getD (a + 1) 0 = x at hcv ⊢
    by_cases hi : 0 ≤ ix
    · have hd : decide (0 ≤ ix) = true := decide_eq_true hi
      have hd2 : decide (ix < 0) = false := decide_eq_false (by omega)
      rw [hd]
      simp only [if_true, Bool.not_true]
      by_cases hn : c = 110
      · rw [if_pos hn]
        clear hd hi hcv
        subst hn
        go_enter Tryz.func199, Tryz.ntmps199
        go_wp2_with (first
          | (go_at_call 147; refine (kP _ h1).mono ?_; rintro e w1 ⟨rfl, h2, hA1⟩; obtain ⟨⟨d0, d1, d2⟩, g1, g2⟩ := h2.facts)
          | (go_at_call 226; refine (kI _).mono ?_; rintro e w2 ⟨rfl, rfl⟩))
        go_ret
        exact ⟨rfl, h2.at1, (hA0.trans (hA1.mono (by simp))).setCell (.inl (by simp)) _⟩
      · have hn2 : (c == 110) = false := by rw [beq_eq_false_iff_ne]; exact hn
        rw [if_neg hn]
        clear hn hd hi
        go_enter Tryz.func199, Tryz.ntmps199
        go_wp2_with (first
          | (go_at_call 147; refine (kP _ h1).mono ?_; rintro e w1 ⟨rfl, h2, hA1⟩; obtain ⟨⟨d0, d1, d2⟩, g1, g2⟩ := h2.facts)
          | (go_at_call 226; refine (kI _).mono ?_; rintro e w2 ⟨rfl, rfl⟩))
        go_ret
        exact ⟨rfl, h2.at1.alloc _, ((hA0.trans (hA1.mono (by simp))).setCell (.inl (by simp)) _).alloc _⟩
    · have hd : decide (0 ≤ ix) = false := decide_eq_false hi
      have hd2 : decide (ix < 0) = true := decide_eq_true (by omega)
      rw [hd]
      simp only [Bool.false_eq_true, if_false, Bool.not_false]
      clear hd hi hcv
      go_enter Tryz.func199, Tryz.ntmps199
      go_wp2_with (first
        | (go_at_call 147; refine (kP _ h1).mono ?_; rintro e w1 ⟨rfl, h2, hA1⟩; obtain ⟨⟨d0, d1, d2⟩, g1, g2⟩ := h2.facts)
        | (go_at_call 226; refine (kI _).mono ?_; rintro e w2 ⟨rfl, rfl⟩))
      go_ret
      exact ⟨rfl, h2.no1 true, (hA0.trans (hA1.mono (by simp))).setCell (.inl (by simp)) _⟩
  · have hp : pkB s.data.toList (a + 1) false = false := by simp [pkB]; omega
    have he : escB s.data.toList m.data.toList a = false := by simp [escB]; intro h; omega
    rw [hp] at kP
    rw [he]
    simp only [Bool.false_eq_true, if_false, Bool.not_false]
    clear he hx hp hL kI hb0 hb1
    go_enter Tryz.func199, Tryz.ntmps199
    go_wp2_with (go_at_call 147; refine (kP _ h1).mono ?_; rintro e w1 ⟨rfl, h2, hA1⟩; obtain ⟨⟨d0, d1, d2⟩, g1, g2⟩ := h2.facts)
    go_ret
    exact ⟨rfl, h2.no1 true, (hA0.trans (hA1.mono (by simp))).setCell (.inl (by simp)) _⟩
end
section
/-- The scanner, and a builder of the call's own. -/
def BS (w0 w : World) (g : Nat) (s : ByteArray) (b : Nat) (nb : Bool) (acc : List UInt8) : Prop := Sc w g s b nb ∧ Lib.IsBuilder 247 5 w0.heap.size w0.heap.size (Lib.byteCells acc) w ∧ Aw [g] w0 w ∧ g < w0.heap.size
section
variable {w0 w w1 : World} {g : Nat} {s : ByteArray} {b : Nat} {nb : Bool} {acc : List UInt8}
theorem BS.start (h : Sc w g s b nb) : BS w (w.alloc (.cells #[.pointer none, .slice none 0 0] 247)) g s b nb [] := ⟨h.alloc _, bld_new, (Aw.refl _ _).alloc _, h.lt⟩
theorem BS.scan {b' : Nat} {nb' : Bool} {S : List Nat} (h : BS w0 w g s b nb acc) (k : Aw S w w1) (hs : Sc w1 g s b' nb') (hS : ∀ i, i ∈ S → i = g) : BS w0 w1 g s b' nb' acc :=
  ⟨hs, bld_aw h.2.1 k (fun i hi => by rw [hS i hi]; exact h.2.2.2), h.2.2.1.trans (k.mono (fun i hi => by rw [hS i hi]; simp)), h.2.2.2⟩
theorem BS.write {t : ByteArray} {p : Value} (h : BS w0 w g s b nb acc) (k : Below w0.heap.size w w1) (hb : Lib.BuilderAt 247 5 w0.heap.size w0.heap.size p (Lib.byteCells acc ++ Lib.strCells t) w1) (hp : p = .pointer (some ⟨w0.heap.size, 0, none⟩)) : BS w0 w1 g s b nb (acc ++ t.data.toList) := by
  subst hp
  refine ⟨h.1.below k h.2.2.2, .inr ?_, h.2.2.1.below k (Nat.le_refl _), h.2.2.2⟩
  rw [byteCells_app]; exact hb
theorem BS.put {x : UInt8} {p : Value} (h : BS w0 w g s b nb acc) (k : Below w0.heap.size w w1) (hb : Lib.BuilderAt 247 5 w0.heap.size w0.heap.size p (Lib.byteCells acc ++ [.int .u8 (x.toNat : Int)]) w1) (hp : p = .pointer (some ⟨w0.heap.size, 0, none⟩)) : BS w0 w1 g s b nb (acc ++ [x]) := by
  subst hp
  refine ⟨h.1.below k h.2.2.2, .inr ?_, h.2.2.1.below k (Nat.le_refl _), h.2.2.2⟩
  rw [byteCells_app]; exact hb
theorem BS.set {p : Addr} {u : Value} {b' : Nat} {nb' : Bool} (h : BS w0 w g s b nb acc) (hp : p.block = g) (hs : Sc (w.setCell p u) g s b' nb') : BS w0 (w.setCell p u) g s b' nb' acc :=
  h.scan (S := [g]) ((Aw.refl _ _).setCell (.inl (by rw [hp]; simp)) u) hs (by simp)
end
def noOf (w : World) (g : Nat) : Bool := match w.cell? ⟨g, 2, none⟩ with
  | some (.bool b) => b
  | _ => false
theorem Sc.noOf {w : World} {g : Nat} {s : ByteArray} {a : Nat} {no : Bool} (h : Sc w g s a no) : noOf w g = no := by
  unfold Go.Proofs.YtcapbikelgcmmaaGreatDoor.noOf
  rw [h.facts.1.2.2]
def mOf (w : World) (g : Nat) (s : ByteArray) : Nat := 2 * (s.size - atOf w g) + if noOf w g then 0 else 1
theorem Sc.mOf {w : World} {g : Nat} {s : ByteArray} {a : Nat} {no : Bool} (h : Sc w g s a no) : mOf w g s = 2 * (s.size - a) + if no then 0 else 1 := by
  unfold Go.Proofs.YtcapbikelgcmmaaGreatDoor.mOf; rw [h.atOf, h.noOf]
def InkR (l : List UInt8) (e : Int) (m : List UInt8) (f b : Nat) (nb : Bool) (acc T : List UInt8) (b' : Nat) (n' : Bool) : Prop :=
  (nb = false ∧ l.length < f + b ∧ inkS l e m 110 f b acc = (T, b', n')) ∨ (nb = true ∧ b' = b ∧ n' = true)
theorem cells_len (l : List UInt8) : (Lib.byteCells l).length = l.length := by simp [Lib.byteCells]
theorem strCells_len (t : ByteArray) : (Lib.strCells t).length = t.size := by simp [Lib.strCells]
theorem strCells_eq (t : ByteArray) : Lib.strCells t = Lib.byteCells t.data.toList := by simp [Lib.strCells, Lib.byteCells]
set_option maxRecDepth 100000 in
set_option maxHeartbeats 6400000 in
theorem inked_any (g : Nat) (s m : ByteArray) (e0 : Int) (a : Nat) (no : Bool) (T : List UInt8) (b' : Nat) (n' : Bool) (w : World) (h : Sc w g s a no) (ha : a ≤ s.size) (hs : s.size ≤ 1048576) (hR : ink s.data.toList e0 m.data.toList 110 a no = (T, b', n')) :
    Calls Tryz.prog 154 #[.pointer (some ⟨g, 0, none⟩), .int .u8 e0, .string m] w fun e w' => e = .returned (.string (if n' then ⟨#[]⟩ else mkS T)) ∧ Sc w' g s b' n' ∧ Aw [g] w w' := by
  have HL : Hid (s.data.toList.length = s.size) := Lib.hid (by simp)
  have hB0 := BS.start h
  obtain ⟨⟨c0, c1, c2⟩, f1, f2⟩ := h.facts
  cases no
  case true =>
    obtain ⟨rfl, rfl, rfl⟩ : [] = T ∧ a = b' ∧ true = n' := by
      unfold ink at hR; simp only [if_true] at hR
      injection hR with e1 e2; injection e2 with e3 e4; exact ⟨e1, e3, e4⟩
    clear hR
    go_enter Tryz.func154, Tryz.ntmps154
    go_wp2_with fail
    go_loopw [8] (fun _ wr => BS w wr g s a true []) (fun _ _ => 0)
    case atStart => exact hB0
    case round =>
      clear hB0 c0 c1 c2 f1 f2
      obtain ⟨⟨c0, c1, c2⟩, f1, f2⟩ := hrel.1.facts
      go_wp2_with fail
      go_ret
      exact ⟨rfl, hrel.1, hrel.2.2.1⟩
  case false =>
  have HR : Hid (InkR s.data.toList e0 m.data.toList (s.data.toList.length + 1) a false [] T b' n') := Lib.hid (.inl ⟨rfl, by omega, hR⟩)
  clear hR
  go_enter Tryz.func154, Tryz.ntmps154
  go_wp2_with fail
  go_loopw [8] (fun _ wr => ∃ (b f : Nat) (nb : Bool) (acc : List UInt8), b ≤ s.size ∧ acc.length ≤ b ∧ BS w wr g s b nb acc ∧ Hid (InkR s.data.toList e0 m.data.toList f b nb acc T b' n')) (fun _ wr => mOf wr g s)
  case atStart => exact ⟨a, _, false, [], ha, by simp, hB0, HR⟩
  case round =>
    clear hB0 HR c0 c1 c2 f1 f2 h
    obtain ⟨b, f, nb, acc, hb, hacc, hB, HI⟩ := hrel
    obtain ⟨⟨c0, c1, c2⟩, f1, f2⟩ := hB.1.facts
    have hm0 := hB.1.mOf
    have hbs := hB.2.2.1.size
    cases nb
    case true =>
      obtain ⟨rfl, rfl⟩ : b' = b ∧ n' = true := by
        rcases HI.out with ⟨h1, _⟩ | ⟨_, h2, h3⟩
        · cases h1
        · exact ⟨h2, h3⟩
      clear HI
      go_wp2_with fail
      go_ret
      exact ⟨rfl, hB.1, hB.2.2.1⟩
    case false =>
    have kP := fun W h => peek_any g s b false W h hb (Nat.le_trans hs (by decide))
    obtain ⟨hf, hI⟩ : s.data.toList.length < f + b ∧ inkS s.data.toList e0 m.data.toList 110 f b acc = (T, b', n') := by
      rcases HI.out with ⟨_, h2, h3⟩ | ⟨h1, _⟩
      · exact ⟨h2, h3⟩
      · cases h1
    rw [HL.out] at hf
    obtain ⟨f, rfl⟩ : ∃ f', f = f' + 1 := ⟨f - 1, by omega⟩
    clear HI
    unfold inkS at hI
    by_cases hlt : b < s.size
    case neg =>
      have hp : pkB s.data.toList b false = false := by simp [pkB]; omega
      rw [if_pos (by rw [HL.out]; omega)] at hI
      obtain ⟨rfl, rfl, rfl⟩ : acc = T ∧ b = b' ∧ true = n' := by injection hI with e1 e2; injection e2 with e3 e4; exact ⟨e1, e3, e4⟩
      rw [hp] at kP
      clear hp hI hf
      generalize pkC s.data.toList b false = c at kP
      go_wp2_with (go_at_call 147; refine (kP _ hB.1).mono ?_; rintro e w1 ⟨rfl, h1, hA1⟩; obtain ⟨⟨d0, d1, d2⟩, g1, g2⟩ := h1.facts)
      have h2 := (hB.scan hA1 h1 (by simp)).set (p := ⟨g, 2, none⟩) rfl (h1.no1 true)
      exact ⟨⟨b, f, true, acc, hb, hacc, h2, Lib.hid (.inr ⟨rfl, rfl, rfl⟩)⟩, by (rw [h2.1.mOf, hm0]; simp)⟩
    case pos =>
    have hp : pkB s.data.toList b false = true := by simp [pkB, hlt]
    have hc : pkC s.data.toList b false = bt s.data.toList b := by unfold pkC; rw [hp]; rfl
    rw [hp, hc] at kP
    rw [if_neg (by rw [HL.out]; omega)] at hI
    clear hp hc
    by_cases k1 : bt s.data.toList b = e0
    case pos =>
      rw [if_pos k1] at hI
      obtain ⟨rfl, rfl, rfl⟩ : acc = T ∧ b = b' ∧ false = n' := by injection hI with e1 e2; injection e2 with e3 e4; exact ⟨e1, e3, e4⟩
      rw [k1] at kP
      clear k1 hI hf
      have hbl := hB.2.1
      go_wp2_with (first
        | (go_at_call 147; refine (kP _ hB.1).mono ?_; rintro e w1 ⟨rfl, h1, hA1⟩; have hB1 := hB.scan hA1 h1 (by simp))
        | (go_at_call 197; refine (Tryz.Builder_String_any w.heap.size w.heap.size acc _ hB1.2.1 hB1.2.2.1.size).mono ?_; rintro e w2 ⟨rfl, hb2⟩))
      go_ret
      exact ⟨rfl, hB1.1.below hb2 hB1.2.2.2, hB1.2.2.1.below hb2 (Nat.le_refl _)⟩
    case neg =>
    have kc1 : (bt s.data.toList b == e0) = false := by rw [beq_eq_false_iff_ne]; exact k1
    rw [if_neg k1] at hI
    by_cases k2 : bt s.data.toList b = 10
    case pos =>
      rw [if_pos k2] at hI
      obtain ⟨rfl, rfl, rfl⟩ : acc = T ∧ b = b' ∧ true = n' := by injection hI with e1 e2; injection e2 with e3 e4; exact ⟨e1, e3, e4⟩
      rw [k2] at kP kc1
      clear k1 k2 hI hf
      go_wp2_with (go_at_call 147; refine (kP _ hB.1).mono ?_; rintro e w1 ⟨rfl, h1, hA1⟩; obtain ⟨⟨d0, d1, d2⟩, g1, g2⟩ := h1.facts)
      have h2 := (hB.scan hA1 h1 (by simp)).set (p := ⟨g, 2, none⟩) rfl (h1.no1 true)
      exact ⟨⟨b, f, true, acc, hb, hacc, h2, Lib.hid (.inr ⟨rfl, rfl, rfl⟩)⟩, by (rw [h2.1.mOf, hm0]; simp)⟩
    case neg =>
    have kc2 : (bt s.data.toList b == 10) = false := by rw [beq_eq_false_iff_ne]; exact k2
    rw [if_neg k2] at hI
    by_cases k3 : bt s.data.toList b = 92
    case pos =>
      rw [if_pos k3] at hI
      rw [k3] at kP kc1
      have kB := fun W h => behind_any g s m b W h hlt (Nat.le_trans hs (by decide))
      cases he : escB s.data.toList m.data.toList b
      case false =>
        rw [he, if_neg (by simp)] at hI
        simp only [he, Bool.false_eq_true, if_false, Bool.not_false] at kB
        obtain ⟨rfl, rfl, rfl⟩ : acc = T ∧ b + 1 = b' ∧ true = n' := by injection hI with e1 e2; injection e2 with e3 e4; exact ⟨e1, e3, e4⟩
        clear k1 k2 k3 kc2 hI hf he
        go_wp2_with (first
          | (go_at_call 147; refine (kP _ hB.1).mono ?_; rintro e w1 ⟨rfl, h1, hA1⟩; have hB1 := hB.scan hA1 h1 (by simp))
          | (go_at_call 199; refine (kB _ hB1.1).mono ?_; rintro e w2 ⟨rfl, h2, hA2⟩; have hB2 := hB1.scan hA2 h2 (by simp))
          | (go_at_call 198; refine (wstr_any w.heap.size w.heap.size _ _ _ hB2.2.1 (by rw [cells_len]; show acc.length + 0 ≤ _; omega) hB2.2.2.1.size).mono ?_; rintro e w3 ⟨rfl, h3, hb3⟩; have hB3 := hB2.write hb3 h3 rfl))
        rw [List.append_nil] at hB3
        exact ⟨⟨b + 1, f, true, acc, by omega, by omega, hB3, Lib.hid (.inr ⟨rfl, rfl, rfl⟩)⟩, by (rw [hB3.1.mOf, hm0]; simp; omega)⟩
      case true =>
        rw [he, if_pos rfl] at hI
        simp only [he, if_true, Bool.not_true] at kB
        have hlt2 := escB_lt he
        rw [HL.out] at hlt2
        have HI : Hid (inkS s.data.toList e0 m.data.toList 110 f (b + 2) (acc ++ [if bt s.data.toList (b + 1) = 110 then 10 else s.data.toList.getD (b + 1) 0]) = (T, b', n')) := Lib.hid hI
        generalize (if bt s.data.toList (b + 1) = 110 then (10 : UInt8) else s.data.toList.getD (b + 1) 0) = x at kB HI
        clear k1 k2 k3 kc2 hI he
        go_wp2_with (first
          | (go_at_call 147; refine (kP _ hB.1).mono ?_; rintro e w1 ⟨rfl, h1, hA1⟩; have hB1 := hB.scan hA1 h1 (by simp))
          | (go_at_call 199; refine (kB _ hB1.1).mono ?_; rintro e w2 ⟨rfl, h2, hA2⟩; have hB2 := hB1.scan hA2 h2 (by simp))
          | (go_at_call 198; refine (wstr_any w.heap.size w.heap.size _ _ _ hB2.2.1 (by rw [cells_len]; show acc.length + 1 ≤ _; omega) hB2.2.2.1.size).mono ?_; rintro e w3 ⟨rfl, h3, hb3⟩; have hB3 := hB2.write hb3 h3 rfl))
        exact ⟨⟨b + 2, f, false, acc ++ [x], by omega, by (simp; omega), hB3, Lib.hid (.inl ⟨rfl, by rw [HL.out]; omega, HI.out⟩)⟩, by (rw [hB3.1.mOf, hm0]; simp; omega)⟩
    case neg =>
    have kc3 : (bt s.data.toList b == 92) = false := by rw [beq_eq_false_iff_ne]; exact k3
    rw [if_neg k3] at hI
    obtain ⟨n, ok, hfr⟩ : ∃ n ok, frontU s.data.toList b = (n, ok) := ⟨_, _, rfl⟩
    have hfl := front_le s.data.toList b (by rw [HL.out]; exact hlt)
    rw [hfr, HL.out] at hfl
    rw [hfr] at hI
    have kS := fun W h => scalar_any g s b n ok W h hlt (Nat.le_trans hs (by decide)) hfr
    have hsz : (s.extract b (b + n)).data.toList = cutL s.data.toList b (b + n) := by rw [ext_bytes]; rfl
    have hsn : (s.extract b (b + n)).size = n := by have := hfl.2.1; simp only at this; simp; omega
    have hcl : (cutL s.data.toList b (b + n)).length = n := by rw [cutL_len _ _ _ (by rw [HL.out]; exact hfl.2.1)]; omega
    have HSZ := Lib.hid hsz
    have HSN := Lib.hid hsn
    have HCL := Lib.hid hcl
    generalize bt s.data.toList b = c at kP kc1 kc2 kc3
    clear hsz hsn hcl hfr k1 k2 k3
    have hn4 : b + n ≤ s.size := hfl.2.1
    cases ok
    case false =>
      simp only [Bool.false_eq_true, if_false, Bool.not_false] at kS hI
      obtain ⟨e1, rfl, rfl⟩ : acc ++ cutL s.data.toList b (b + n) = T ∧ b + n = b' ∧ true = n' := by injection hI with e1 e2; injection e2 with e3 e4; exact ⟨e1, e3, e4⟩
      clear e1 hI hf hfl
      go_wp2_with (first
        | (go_at_call 147; refine (kP _ hB.1).mono ?_; rintro e w1 ⟨rfl, h1, hA1⟩; have hB1 := hB.scan hA1 h1 (by simp))
        | (go_at_call 200; refine (kS _ hB1.1).mono ?_; rintro e w2 ⟨rfl, h2, hA2⟩; have hB2 := hB1.scan hA2 h2 (by simp))
        | (go_at_call 198; refine (wstr_any w.heap.size w.heap.size _ _ _ hB2.2.1 (by rw [cells_len, HSN.out]; omega) hB2.2.2.1.size).mono ?_; rintro e w3 ⟨rfl, h3, hb3⟩; have hB3 := hB2.write hb3 h3 rfl))
      rw [HSZ.out] at hB3
      exact ⟨⟨b + n, f, true, acc ++ cutL s.data.toList b (b + n), hn4, by (rw [List.length_append, HCL.out]; omega), hB3, Lib.hid (.inr ⟨rfl, rfl, rfl⟩)⟩, by (rw [hB3.1.mOf, hm0]; simp; omega)⟩
    case true =>
      simp only [if_true, Bool.not_true] at kS hI
      have HI := Lib.hid hI
      have hn1 : 1 ≤ n := hfl.2.2 rfl
      clear hI hfl
      go_wp2_with (first
        | (go_at_call 147; refine (kP _ hB.1).mono ?_; rintro e w1 ⟨rfl, h1, hA1⟩; have hB1 := hB.scan hA1 h1 (by simp))
        | (go_at_call 200; refine (kS _ hB1.1).mono ?_; rintro e w2 ⟨rfl, h2, hA2⟩; have hB2 := hB1.scan hA2 h2 (by simp))
        | (go_at_call 198; refine (wstr_any w.heap.size w.heap.size _ _ _ hB2.2.1 (by rw [cells_len, HSN.out]; omega) hB2.2.2.1.size).mono ?_; rintro e w3 ⟨rfl, h3, hb3⟩; have hB3 := hB2.write hb3 h3 rfl))
      rw [HSZ.out] at hB3
      exact ⟨⟨b + n, f, false, acc ++ cutL s.data.toList b (b + n), hn4, by (rw [List.length_append, HCL.out]; omega), hB3, Lib.hid (.inl ⟨rfl, by rw [HL.out]; omega, HI.out⟩)⟩, by (rw [hB3.1.mOf, hm0]; simp; omega)⟩
def SgnR (l m : List UInt8) (wide : Bool) (f b : Nat) (nb : Bool) (acc : List UInt8) (R : List UInt8 × Nat × Bool) : Prop :=
  (nb = false ∧ l.length < f + b ∧ sgnS l m wide f b acc = R) ∨ (nb = true ∧ R = (acc, b, true))
/-- What the signs' loop says in the end. -/
def sgnEnd (a : Nat) (R : List UInt8 × Nat × Bool) : List UInt8 × Nat × Bool := (R.1, R.2.1, R.2.2 || R.2.1 == a)
theorem sgn_end (l m : List UInt8) (wide : Bool) (a : Nat) : sgn l m wide a false = sgnEnd a (sgnS l m wide (l.length + 1) a []) := rfl
end
section
theorem sletter_any (c : Int) (w : World) : Calls Tryz.prog 225 #[.int .u8 c] w fun e w' => e = .returned (.bool (letB c)) ∧ w' = w := by
  have HB : Hid (letB c = (decide (97 ≤ c) && decide (c ≤ 122) || decide (65 ≤ c) && decide (c ≤ 90))) := Lib.hid rfl
  go_enter Tryz.func225, Tryz.ntmps225
  go_wp2_with fail
  all_goals
    go_ret
    exact ⟨ret_bool (by rw [HB.out]; apply bcl; simp; try omega), rfl⟩
theorem sdigit_any' (c : Int) (w : World) : Calls Tryz.prog 192 #[.int .u8 c] w fun e w' => e = .returned (.bool (digB c)) ∧ w' = w := (sdigit_any c w).mono fun e w' ⟨h1, h2⟩ => ⟨h1, h2.symm⟩
theorem sdigitC (c : Int) (w : World) (_h0 : 0 ≤ c) (_h1 : c ≤ 255) : Calls Tryz.prog 192 #[.int .u8 c] w fun e w' => e = .returned (.bool (digB c)) ∧ Aw [] w w' := (sdigit_any c w).mono fun e w' ⟨h1, h2⟩ => ⟨h1, by rw [← h2]; exact Aw.refl _ _⟩
theorem idxC (m : ByteArray) (c : Int) (w : World) (h0 : 0 ≤ c) (h1 : c ≤ 255) : Calls Tryz.prog 226 #[.string m, .int .u8 c] w fun e w' => (∃ D, e = .returned (.int .i64 D) ∧ decide (0 ≤ D) = m.data.toList.any fun d => c == d.toNat) ∧ w' = w :=
  (Tryz.strings_IndexByte m c w).mono fun e w' ⟨h2, h3⟩ => ⟨⟨_, h2, (idx_any m.data.toList c h0 h1).symm⟩, h3⟩
theorem infoSigns : (Tryz.prog.info? 272).map (fun i => (i.zero, i.size, i.bytes)) = some (some (.agg #[.string ⟨#[]⟩, .string ⟨#[]⟩]), 2, 32) := by kernel_rfl
set_option maxHeartbeats 1600000 in
theorem oin0_any (c : Int) (w : World) (h0 : 0 ≤ c) (h1 : c ≤ 255) : Calls Tryz.prog 193 #[.int .u8 c, .int .i64 0] w fun e w' => e = .returned (.bool (owLabel c)) ∧ Aw [] w w' := by
  have kL := fun W => sletter_any c W
  have kD := fun W => sdigit_any' c W
  have kI := fun W => idxC ⟨#[95]⟩ c W h0 h1
  have hP : owLabel c = (letB c || (digB c || c == 95)) := rfl
  have hI : ((⟨#[95]⟩ : ByteArray).data.toList.any fun d => c == d.toNat) = (c == 95) := by simp
  rw [hP]
  rw [hI] at kI
  clear hP hI
  generalize letB c = L at kL ⊢
  generalize digB c = D at kD ⊢
  generalize (c == 95) = E at kI ⊢
  cases L
  · cases D
    · go_enter Tryz.func193, Tryz.ntmps193
      go_wp2_with (first
        | (go_at_call 225; refine (kL _).mono ?_; rintro e w1 ⟨rfl, hw1⟩; rw [hw1]; clear hw1 w1)
        | (go_at_call 192; refine (kD _).mono ?_; rintro e w1 ⟨rfl, hw1⟩; rw [hw1]; clear hw1 w1)
        | (go_at_call 226; refine (kI _).mono ?_; rintro e w1 ⟨⟨Q, rfl, hQ⟩, hw1⟩; rw [hw1]; clear hw1 w1))
      go_ret
      exact ⟨ret_bool (by simp [hQ]), (Aw.refl _ _).alloc _⟩
    · go_enter Tryz.func193, Tryz.ntmps193
      go_wp2_with (first
        | (go_at_call 225; refine (kL _).mono ?_; rintro e w1 ⟨rfl, hw1⟩; rw [hw1]; clear hw1 w1)
        | (go_at_call 192; refine (kD _).mono ?_; rintro e w1 ⟨rfl, hw1⟩; rw [hw1]; clear hw1 w1))
      go_ret
      exact ⟨rfl, (Aw.refl _ _).alloc _⟩
  · go_enter Tryz.func193, Tryz.ntmps193
    go_wp2_with (go_at_call 225; refine (kL _).mono ?_; rintro e w1 ⟨rfl, hw1⟩; rw [hw1]; clear hw1 w1)
    go_ret
    exact ⟨rfl, (Aw.refl _ _).alloc _⟩
set_option maxHeartbeats 1600000 in
theorem oin1_any (c : Int) (w : World) (h0 : 0 ≤ c) (h1 : c ≤ 255) : Calls Tryz.prog 193 #[.int .u8 c, .int .i64 1] w fun e w' => e = .returned (.bool (owName c)) ∧ Aw [] w w' := by
  have kL := fun W => sletter_any c W
  have kD := fun W => sdigit_any' c W
  have kI := fun W => idxC ⟨#[95, 58]⟩ c W h0 h1
  have hP : owName c = (letB c || (digB c || (c == 95 || c == 58))) := rfl
  have hI : ((⟨#[95, 58]⟩ : ByteArray).data.toList.any fun d => c == d.toNat) = (c == 95 || c == 58) := by simp
  rw [hP]
  rw [hI] at kI
  clear hP hI
  generalize letB c = L at kL ⊢
  generalize digB c = D at kD ⊢
  generalize (c == 95 || c == 58) = E at kI ⊢
  cases L
  · cases D
    · go_enter Tryz.func193, Tryz.ntmps193
      go_wp2_with (first
        | (go_at_call 225; refine (kL _).mono ?_; rintro e w1 ⟨rfl, hw1⟩; rw [hw1]; clear hw1 w1)
        | (go_at_call 192; refine (kD _).mono ?_; rintro e w1 ⟨rfl, hw1⟩; rw [hw1]; clear hw1 w1)
        | (go_at_call 226; refine (kI _).mono ?_; rintro e w1 ⟨⟨Q, rfl, hQ⟩, hw1⟩; rw [hw1]; clear hw1 w1))
      go_ret
      exact ⟨ret_bool (by simp [hQ]), (Aw.refl _ _).alloc _⟩
    · go_enter Tryz.func193, Tryz.ntmps193
      go_wp2_with (first
        | (go_at_call 225; refine (kL _).mono ?_; rintro e w1 ⟨rfl, hw1⟩; rw [hw1]; clear hw1 w1)
        | (go_at_call 192; refine (kD _).mono ?_; rintro e w1 ⟨rfl, hw1⟩; rw [hw1]; clear hw1 w1))
      go_ret
      exact ⟨rfl, (Aw.refl _ _).alloc _⟩
  · go_enter Tryz.func193, Tryz.ntmps193
    go_wp2_with (go_at_call 225; refine (kL _).mono ?_; rintro e w1 ⟨rfl, hw1⟩; rw [hw1]; clear hw1 w1)
    go_ret
    exact ⟨rfl, (Aw.refl _ _).alloc _⟩
theorem isLabelC (c : Int) (w : World) (h0 : 0 ≤ c) (h1 : c ≤ 255) : Calls Tryz.prog 227 #[.int .u8 c] w fun e w' => e = .returned (.bool (owLabel c)) ∧ Aw [] w w' := by
  have k := fun W => oin0_any c W h0 h1
  generalize owLabel c = Q at k ⊢
  go_enter Tryz.func227, Tryz.ntmps227
  go_wp2_with (go_at_call 193; refine (k _).mono ?_; rintro e w1 ⟨rfl, h1⟩)
  go_ret
  exact ⟨rfl, h1⟩
theorem isNameC (c : Int) (w : World) (h0 : 0 ≤ c) (h1 : c ≤ 255) : Calls Tryz.prog 149 #[.int .u8 c] w fun e w' => e = .returned (.bool (owName c)) ∧ Aw [] w w' := by
  have k := fun W => oin1_any c W h0 h1
  generalize owName c = Q at k ⊢
  go_enter Tryz.func149, Tryz.ntmps149
  go_wp2_with (go_at_call 193; refine (k _).mono ?_; rintro e w1 ⟨rfl, h1⟩)
  go_ret
  exact ⟨rfl, h1⟩
theorem isSmallC (c : Int) (w : World) (h0 : 0 ≤ c) (h1 : c ≤ 255) : Calls Tryz.prog 153 #[.int .u8 c] w fun e w' => e = .returned (.bool (smB c)) ∧ Aw [] w w' := by
  have HB : Hid (smB c = (decide (97 ≤ c) && decide (c ≤ 122))) := Lib.hid rfl
  go_enter Tryz.func153, Tryz.ntmps153
  go_wp2_with fail
  all_goals
    go_ret
    exact ⟨ret_bool (by rw [HB.out]; apply bcl; simp; try omega), Aw.refl _ _⟩
theorem pkC_bd (l : List UInt8) (a : Nat) (no : Bool) : 0 ≤ pkC l a no ∧ pkC l a no ≤ 255 := by
  unfold pkC
  split
  · exact ⟨bt_nonneg l a, bt_le l a⟩
  · omega
set_option maxHeartbeats 1600000 in
theorem while_olabel (g : Nat) (s : ByteArray) (a : Nat) (no : Bool) (b' : Nat) (w : World) (h : Sc w g s a no) (ha : a ≤ s.size) (hs : s.size ≤ 4611686018427387904) (hR : whN s.data.toList owLabel a no = b') :
    Calls Tryz.prog 196 #[.pointer (some ⟨g, 0, none⟩), .func (.func 227) #[] #[]] w fun e w' => e = .returned (.string (s.extract a b')) ∧ Sc w' g s b' no ∧ Aw [g] w w' := by
  have HL : Hid (s.data.toList.length = s.size) := Lib.hid (by simp)
  have HR := Lib.hid hR
  have ha0 : (0 : Int) ≤ a := by omega
  clear hR
  obtain ⟨⟨c0, c1, c2⟩, f1, f2⟩ := h.facts
  go_enter Tryz.func196, Tryz.ntmps196
  go_wp2_with fail
  go_loopw [6] (fun _ wr => ∃ b : Nat, a ≤ b ∧ b ≤ s.size ∧ Sc wr g s b no ∧ Aw [g] w wr ∧ Hid (whN s.data.toList owLabel b no = b')) (fun _ wr => s.size - atOf wr g)
  case atStart => exact ⟨a, Nat.le_refl _, ha, h, Aw.refl _ _, HR⟩
  case round =>
    obtain ⟨b, hab, hb, hsc, hA, HG⟩ := hrel
    clear HR h c0 c1 c2 f1 f2
    have kP := peek_any g s b no
    have hy := fun h1 h2 => whN_yes (l := s.data.toList) (p := owLabel) (a := b) (no := no) h1 h2
    have hn := fun h1 => whN_no (l := s.data.toList) (p := owLabel) (a := b) (no := no) h1 (by rw [HL.out]; exact hb)
    have hab' : (a : Int) ≤ b := by omega
    have hb' : (b : Int) ≤ s.size := by omega
    have hat := hsc.atOf
    obtain ⟨hc0, hc1⟩ := pkC_bd s.data.toList b no
    cases hq : pkB s.data.toList b no
    · have HF := HG.out
      rw [hn (.inl hq)] at HF
      subst HF
      rw [hq] at kP
      clear hq hy hn HG hat hc0 hc1
      generalize pkC s.data.toList b no = c at kP
      go_wp2_with (go_at_call 147; refine (kP _ hsc hb hs).mono ?_; rintro e w1 ⟨rfl, h1, hA1⟩; obtain ⟨⟨d0, d1, d2⟩, g1, g2⟩ := h1.facts)
      go_quiet (fail)
      go_wp2_with fail
      go_ret
      exact ⟨rfl, h1.drewN _, (hA.trans (hA1.mono (by simp))).drewN _⟩
    · rw [hq] at kP
      have kK := fun W => isLabelC (pkC s.data.toList b no) W hc0 hc1
      cases hp : owLabel (pkC s.data.toList b no)
      · have HF := HG.out
        rw [hn (.inr hp)] at HF
        subst HF
        rw [hp] at kK
        clear hq hy hn HG hat hp hc0 hc1
        generalize pkC s.data.toList b no = c at kP kK
        go_wp2_with (first
          | (go_at_call 147; refine (kP _ hsc hb hs).mono ?_; rintro e w1 ⟨rfl, h1, hA1⟩)
          | (go_at_call 227; refine (kK _).mono ?_; rintro e w2 ⟨rfl, hA2⟩; have h2 := h1.aw hA2 (by simp); obtain ⟨⟨d0, d1, d2⟩, g1, g2⟩ := h2.facts))
        go_quiet (fail)
        go_wp2_with fail
        go_ret
        exact ⟨rfl, h2.drewN _, ((hA.trans (hA1.mono (by simp))).trans (hA2.mono (by simp))).drewN _⟩
      · obtain ⟨e1, e2⟩ := hy hq hp
        have HF := Lib.hid (e1.symm.trans HG.out)
        rw [HL.out] at e2
        rw [hp] at kK
        clear hq hy hn HG e1 hp hc0 hc1
        generalize pkC s.data.toList b no = c at kP kK
        go_wp2_with (first
          | (go_at_call 147; refine (kP _ hsc hb hs).mono ?_; rintro e w1 ⟨rfl, h1, hA1⟩)
          | (go_at_call 227; refine (kK _).mono ?_; rintro e w2 ⟨rfl, hA2⟩; have h2 := h1.aw hA2 (by simp); obtain ⟨⟨d0, d1, d2⟩, g1, g2⟩ := h2.facts))
        exact ⟨⟨b + 1, by omega, by omega, h2.at1, ((hA.trans (hA1.mono (by simp))).trans (hA2.mono (by simp))).setCell (.inl (by simp)) _, HF⟩, by (rw [h2.at1.atOf, hat]; omega)⟩
set_option maxHeartbeats 1600000 in
theorem some_olabel (g : Nat) (s : ByteArray) (a : Nat) (no : Bool) (b' : Nat) (n' : Bool) (w : World) (h : Sc w g s a no) (ha : a ≤ s.size) (hs : s.size ≤ 4611686018427387904) (hR : someS s.data.toList owLabel a no = (b', n')) :
    Calls Tryz.prog 152 #[.pointer (some ⟨g, 0, none⟩), .func (.func 227) #[] #[]] w fun e w' => e = .returned (.string (s.extract a b')) ∧ Sc w' g s b' n' ∧ Aw [g] w w' := by
  have hL : s.data.toList.length = s.size := by simp
  have hw : whN s.data.toList owLabel a no = b' := by
    unfold whN; unfold someS at hR
    cases no
    · simp only [Bool.false_eq_true, if_false] at hR ⊢; injection hR
    · simp only [if_true] at hR ⊢; injection hR
  have kW := while_olabel g s a no b'
  have hle := whN_le s.data.toList owLabel a no (by rw [hL]; exact ha)
  rw [hw, hL] at hle
  cases no
  · have hn : (b' == a) = n' := by
      unfold someS at hR
      simp only [Bool.false_eq_true, if_false] at hR
      injection hR with e1 e2
      rw [← e2, e1]
    have h3 : (s.extract a b').data.toList.length = b' - a := by simp; omega
    have h4 : ((s.extract a b').toList == []) = n' := by
      rw [ByteArray.toList_eq, ← hn]
      apply bcl
      rw [beq_iff_eq, beq_iff_eq, ← List.length_eq_zero_iff, h3]
      omega
    have h5 : (s.extract a b').toList.isEmpty = n' := by
      rw [← h4]
      cases (s.extract a b').toList <;> rfl
    clear hR hn h3 hL
    generalize s.extract a b' = t at h4 h5 kW ⊢
    go_enter Tryz.func152, Tryz.ntmps152
    go_wp2_with (go_at_call 196; refine (kW _ h ha hs hw).mono ?_; rintro e w1 ⟨rfl, h1, hA1⟩; obtain ⟨⟨d0, d1, d2⟩, g1, g2⟩ := h1.facts)
    go_ret
    exact ⟨rfl, h1.no1 _, hA1.setCell (.inl (by simp)) _⟩
  · obtain rfl : true = n' := by unfold someS at hR; simp only [if_true] at hR; injection hR
    clear hR hL
    generalize s.extract a b' = t at kW ⊢
    go_enter Tryz.func152, Tryz.ntmps152
    go_wp2_with (go_at_call 196; refine (kW _ h ha hs hw).mono ?_; rintro e w1 ⟨rfl, h1, hA1⟩; obtain ⟨⟨d0, d1, d2⟩, g1, g2⟩ := h1.facts)
    go_ret
    exact ⟨rfl, h1.no1 true, hA1.setCell (.inl (by simp)) _⟩
set_option maxHeartbeats 1600000 in
theorem while_oname (g : Nat) (s : ByteArray) (a : Nat) (no : Bool) (b' : Nat) (w : World) (h : Sc w g s a no) (ha : a ≤ s.size) (hs : s.size ≤ 4611686018427387904) (hR : whN s.data.toList owName a no = b') :
    Calls Tryz.prog 196 #[.pointer (some ⟨g, 0, none⟩), .func (.func 149) #[] #[]] w fun e w' => e = .returned (.string (s.extract a b')) ∧ Sc w' g s b' no ∧ Aw [g] w w' := by
  have HL : Hid (s.data.toList.length = s.size) := Lib.hid (by simp)
  have HR := Lib.hid hR
  have ha0 : (0 : Int) ≤ a := by omega
  clear hR
  obtain ⟨⟨c0, c1, c2⟩, f1, f2⟩ := h.facts
  go_enter Tryz.func196, Tryz.ntmps196
  go_wp2_with fail
  go_loopw [6] (fun _ wr => ∃ b : Nat, a ≤ b ∧ b ≤ s.size ∧ Sc wr g s b no ∧ Aw [g] w wr ∧ Hid (whN s.data.toList owName b no = b')) (fun _ wr => s.size - atOf wr g)
  case atStart => exact ⟨a, Nat.le_refl _, ha, h, Aw.refl _ _, HR⟩
  case round =>
    obtain ⟨b, hab, hb, hsc, hA, HG⟩ := hrel
    clear HR h c0 c1 c2 f1 f2
    have kP := peek_any g s b no
    have hy := fun h1 h2 => whN_yes (l := s.data.toList) (p := owName) (a := b) (no := no) h1 h2
    have hn := fun h1 => whN_no (l := s.data.toList) (p := owName) (a := b) (no := no) h1 (by rw [HL.out]; exact hb)
    have hab' : (a : Int) ≤ b := by omega
    have hb' : (b : Int) ≤ s.size := by omega
    have hat := hsc.atOf
    obtain ⟨hc0, hc1⟩ := pkC_bd s.data.toList b no
    cases hq : pkB s.data.toList b no
    · have HF := HG.out
      rw [hn (.inl hq)] at HF
      subst HF
      rw [hq] at kP
      clear hq hy hn HG hat hc0 hc1
      generalize pkC s.data.toList b no = c at kP
      go_wp2_with (go_at_call 147; refine (kP _ hsc hb hs).mono ?_; rintro e w1 ⟨rfl, h1, hA1⟩; obtain ⟨⟨d0, d1, d2⟩, g1, g2⟩ := h1.facts)
      go_quiet (fail)
      go_wp2_with fail
      go_ret
      exact ⟨rfl, h1.drewN _, (hA.trans (hA1.mono (by simp))).drewN _⟩
    · rw [hq] at kP
      have kK := fun W => isNameC (pkC s.data.toList b no) W hc0 hc1
      cases hp : owName (pkC s.data.toList b no)
      · have HF := HG.out
        rw [hn (.inr hp)] at HF
        subst HF
        rw [hp] at kK
        clear hq hy hn HG hat hp hc0 hc1
        generalize pkC s.data.toList b no = c at kP kK
        go_wp2_with (first
          | (go_at_call 147; refine (kP _ hsc hb hs).mono ?_; rintro e w1 ⟨rfl, h1, hA1⟩)
          | (go_at_call 149; refine (kK _).mono ?_; rintro e w2 ⟨rfl, hA2⟩; have h2 := h1.aw hA2 (by simp); obtain ⟨⟨d0, d1, d2⟩, g1, g2⟩ := h2.facts))
        go_quiet (fail)
        go_wp2_with fail
        go_ret
        exact ⟨rfl, h2.drewN _, ((hA.trans (hA1.mono (by simp))).trans (hA2.mono (by simp))).drewN _⟩
      · obtain ⟨e1, e2⟩ := hy hq hp
        have HF := Lib.hid (e1.symm.trans HG.out)
        rw [HL.out] at e2
        rw [hp] at kK
        clear hq hy hn HG e1 hp hc0 hc1
        generalize pkC s.data.toList b no = c at kP kK
        go_wp2_with (first
          | (go_at_call 147; refine (kP _ hsc hb hs).mono ?_; rintro e w1 ⟨rfl, h1, hA1⟩)
          | (go_at_call 149; refine (kK _).mono ?_; rintro e w2 ⟨rfl, hA2⟩; have h2 := h1.aw hA2 (by simp); obtain ⟨⟨d0, d1, d2⟩, g1, g2⟩ := h2.facts))
        exact ⟨⟨b + 1, by omega, by omega, h2.at1, ((hA.trans (hA1.mono (by simp))).trans (hA2.mono (by simp))).setCell (.inl (by simp)) _, HF⟩, by (rw [h2.at1.atOf, hat]; omega)⟩
set_option maxHeartbeats 1600000 in
theorem some_oname (g : Nat) (s : ByteArray) (a : Nat) (no : Bool) (b' : Nat) (n' : Bool) (w : World) (h : Sc w g s a no) (ha : a ≤ s.size) (hs : s.size ≤ 4611686018427387904) (hR : someS s.data.toList owName a no = (b', n')) :
    Calls Tryz.prog 152 #[.pointer (some ⟨g, 0, none⟩), .func (.func 149) #[] #[]] w fun e w' => e = .returned (.string (s.extract a b')) ∧ Sc w' g s b' n' ∧ Aw [g] w w' := by
  have hL : s.data.toList.length = s.size := by simp
  have hw : whN s.data.toList owName a no = b' := by
    unfold whN; unfold someS at hR
    cases no
    · simp only [Bool.false_eq_true, if_false] at hR ⊢; injection hR
    · simp only [if_true] at hR ⊢; injection hR
  have kW := while_oname g s a no b'
  have hle := whN_le s.data.toList owName a no (by rw [hL]; exact ha)
  rw [hw, hL] at hle
  cases no
  · have hn : (b' == a) = n' := by
      unfold someS at hR
      simp only [Bool.false_eq_true, if_false] at hR
      injection hR with e1 e2
      rw [← e2, e1]
    have h3 : (s.extract a b').data.toList.length = b' - a := by simp; omega
    have h4 : ((s.extract a b').toList == []) = n' := by
      rw [ByteArray.toList_eq, ← hn]
      apply bcl
      rw [beq_iff_eq, beq_iff_eq, ← List.length_eq_zero_iff, h3]
      omega
    have h5 : (s.extract a b').toList.isEmpty = n' := by
      rw [← h4]
      cases (s.extract a b').toList <;> rfl
    clear hR hn h3 hL
    generalize s.extract a b' = t at h4 h5 kW ⊢
    go_enter Tryz.func152, Tryz.ntmps152
    go_wp2_with (go_at_call 196; refine (kW _ h ha hs hw).mono ?_; rintro e w1 ⟨rfl, h1, hA1⟩; obtain ⟨⟨d0, d1, d2⟩, g1, g2⟩ := h1.facts)
    go_ret
    exact ⟨rfl, h1.no1 _, hA1.setCell (.inl (by simp)) _⟩
  · obtain rfl : true = n' := by unfold someS at hR; simp only [if_true] at hR; injection hR
    clear hR hL
    generalize s.extract a b' = t at kW ⊢
    go_enter Tryz.func152, Tryz.ntmps152
    go_wp2_with (go_at_call 196; refine (kW _ h ha hs hw).mono ?_; rintro e w1 ⟨rfl, h1, hA1⟩; obtain ⟨⟨d0, d1, d2⟩, g1, g2⟩ := h1.facts)
    go_ret
    exact ⟨rfl, h1.no1 true, hA1.setCell (.inl (by simp)) _⟩
set_option maxHeartbeats 1600000 in
theorem while_osmall (g : Nat) (s : ByteArray) (a : Nat) (no : Bool) (b' : Nat) (w : World) (h : Sc w g s a no) (ha : a ≤ s.size) (hs : s.size ≤ 4611686018427387904) (hR : whN s.data.toList smB a no = b') :
    Calls Tryz.prog 196 #[.pointer (some ⟨g, 0, none⟩), .func (.func 153) #[] #[]] w fun e w' => e = .returned (.string (s.extract a b')) ∧ Sc w' g s b' no ∧ Aw [g] w w' := by
  have HL : Hid (s.data.toList.length = s.size) := Lib.hid (by simp)
  have HR := Lib.hid hR
  have ha0 : (0 : Int) ≤ a := by omega
  clear hR
  obtain ⟨⟨c0, c1, c2⟩, f1, f2⟩ := h.facts
  go_enter Tryz.func196, Tryz.ntmps196
  go_wp2_with fail
  go_loopw [6] (fun _ wr => ∃ b : Nat, a ≤ b ∧ b ≤ s.size ∧ Sc wr g s b no ∧ Aw [g] w wr ∧ Hid (whN s.data.toList smB b no = b')) (fun _ wr => s.size - atOf wr g)
  case atStart => exact ⟨a, Nat.le_refl _, ha, h, Aw.refl _ _, HR⟩
  case round =>
    obtain ⟨b, hab, hb, hsc, hA, HG⟩ := hrel
    clear HR h c0 c1 c2 f1 f2
    have kP := peek_any g s b no
    have hy := fun h1 h2 => whN_yes (l := s.data.toList) (p := smB) (a := b) (no := no) h1 h2
    have hn := fun h1 => whN_no (l := s.data.toList) (p := smB) (a := b) (no := no) h1 (by rw [HL.out]; exact hb)
    have hab' : (a : Int) ≤ b := by omega
    have hb' : (b : Int) ≤ s.size := by omega
    have hat := hsc.atOf
    obtain ⟨hc0, hc1⟩ := pkC_bd s.data.toList b no
    cases hq : pkB s.data.toList b no
    · have HF := HG.out
      rw [hn (.inl hq)] at HF
      subst HF
      rw [hq] at kP
      clear hq hy hn HG hat hc0 hc1
      generalize pkC s.data.toList b no = c at kP
      go_wp2_with (go_at_call 147; refine (kP _ hsc hb hs).mono ?_; rintro e w1 ⟨rfl, h1, hA1⟩; obtain ⟨⟨d0, d1, d2⟩, g1, g2⟩ := h1.facts)
      go_quiet (fail)
      go_wp2_with fail
      go_ret
      exact ⟨rfl, h1.drewN _, (hA.trans (hA1.mono (by simp))).drewN _⟩
    · rw [hq] at kP
      have kK := fun W => isSmallC (pkC s.data.toList b no) W hc0 hc1
      cases hp : smB (pkC s.data.toList b no)
      · have HF := HG.out
        rw [hn (.inr hp)] at HF
        subst HF
        rw [hp] at kK
        clear hq hy hn HG hat hp hc0 hc1
        generalize pkC s.data.toList b no = c at kP kK
        go_wp2_with (first
          | (go_at_call 147; refine (kP _ hsc hb hs).mono ?_; rintro e w1 ⟨rfl, h1, hA1⟩)
          | (go_at_call 153; refine (kK _).mono ?_; rintro e w2 ⟨rfl, hA2⟩; have h2 := h1.aw hA2 (by simp); obtain ⟨⟨d0, d1, d2⟩, g1, g2⟩ := h2.facts))
        go_quiet (fail)
        go_wp2_with fail
        go_ret
        exact ⟨rfl, h2.drewN _, ((hA.trans (hA1.mono (by simp))).trans (hA2.mono (by simp))).drewN _⟩
      · obtain ⟨e1, e2⟩ := hy hq hp
        have HF := Lib.hid (e1.symm.trans HG.out)
        rw [HL.out] at e2
        rw [hp] at kK
        clear hq hy hn HG e1 hp hc0 hc1
        generalize pkC s.data.toList b no = c at kP kK
        go_wp2_with (first
          | (go_at_call 147; refine (kP _ hsc hb hs).mono ?_; rintro e w1 ⟨rfl, h1, hA1⟩)
          | (go_at_call 153; refine (kK _).mono ?_; rintro e w2 ⟨rfl, hA2⟩; have h2 := h1.aw hA2 (by simp); obtain ⟨⟨d0, d1, d2⟩, g1, g2⟩ := h2.facts))
        exact ⟨⟨b + 1, by omega, by omega, h2.at1, ((hA.trans (hA1.mono (by simp))).trans (hA2.mono (by simp))).setCell (.inl (by simp)) _, HF⟩, by (rw [h2.at1.atOf, hat]; omega)⟩
set_option maxHeartbeats 1600000 in
theorem some_osmall (g : Nat) (s : ByteArray) (a : Nat) (no : Bool) (b' : Nat) (n' : Bool) (w : World) (h : Sc w g s a no) (ha : a ≤ s.size) (hs : s.size ≤ 4611686018427387904) (hR : someS s.data.toList smB a no = (b', n')) :
    Calls Tryz.prog 152 #[.pointer (some ⟨g, 0, none⟩), .func (.func 153) #[] #[]] w fun e w' => e = .returned (.string (s.extract a b')) ∧ Sc w' g s b' n' ∧ Aw [g] w w' := by
  have hL : s.data.toList.length = s.size := by simp
  have hw : whN s.data.toList smB a no = b' := by
    unfold whN; unfold someS at hR
    cases no
    · simp only [Bool.false_eq_true, if_false] at hR ⊢; injection hR
    · simp only [if_true] at hR ⊢; injection hR
  have kW := while_osmall g s a no b'
  have hle := whN_le s.data.toList smB a no (by rw [hL]; exact ha)
  rw [hw, hL] at hle
  cases no
  · have hn : (b' == a) = n' := by
      unfold someS at hR
      simp only [Bool.false_eq_true, if_false] at hR
      injection hR with e1 e2
      rw [← e2, e1]
    have h3 : (s.extract a b').data.toList.length = b' - a := by simp; omega
    have h4 : ((s.extract a b').toList == []) = n' := by
      rw [ByteArray.toList_eq, ← hn]
      apply bcl
      rw [beq_iff_eq, beq_iff_eq, ← List.length_eq_zero_iff, h3]
      omega
    have h5 : (s.extract a b').toList.isEmpty = n' := by
      rw [← h4]
      cases (s.extract a b').toList <;> rfl
    clear hR hn h3 hL
    generalize s.extract a b' = t at h4 h5 kW ⊢
    go_enter Tryz.func152, Tryz.ntmps152
    go_wp2_with (go_at_call 196; refine (kW _ h ha hs hw).mono ?_; rintro e w1 ⟨rfl, h1, hA1⟩; obtain ⟨⟨d0, d1, d2⟩, g1, g2⟩ := h1.facts)
    go_ret
    exact ⟨rfl, h1.no1 _, hA1.setCell (.inl (by simp)) _⟩
  · obtain rfl : true = n' := by unfold someS at hR; simp only [if_true] at hR; injection hR
    clear hR hL
    generalize s.extract a b' = t at kW ⊢
    go_enter Tryz.func152, Tryz.ntmps152
    go_wp2_with (go_at_call 196; refine (kW _ h ha hs hw).mono ?_; rintro e w1 ⟨rfl, h1, hA1⟩; obtain ⟨⟨d0, d1, d2⟩, g1, g2⟩ := h1.facts)
    go_ret
    exact ⟨rfl, h1.no1 true, hA1.setCell (.inl (by simp)) _⟩
end
section
theorem ext_cut (s : ByteArray) (a b : Nat) : s.extract a b = mkS (cutL s.data.toList a b) := by
  apply bytes_ext
  rw [ext_bytes]; rfl
theorem mk_app (a b : List UInt8) : mkS a ++ mkS b = mkS (a ++ b) := by
  apply bytes_ext
  show (mkS a ++ mkS b).data.toList = a ++ b
  rw [ByteArray.data_append]; simp [mkS]
end
section
/-- The reader's block, a tag's block. -/
def Rd (w : World) (r g : Nat) (rv : Value) : Prop := Blk w r 89 #[.pointer (some ⟨g, 0, none⟩), rv]
def Tg (w : World) (t : Nat) (nm vl : ByteArray) (off pos : Nat) : Prop := Blk w t 45 #[.string nm, .string vl, .int .i64 (off : Int), .int .i64 (pos : Int)]
theorem Rd.facts {w : World} {r g : Nat} {rv : Value} (h : Rd w r g rv) : w.cell? ⟨r, 0, none⟩ = some (.pointer (some ⟨g, 0, none⟩)) ∧ w.cell? ⟨r, 1, none⟩ = some rv ∧ w.frozen? ⟨r, 1, none⟩ = false :=
  ⟨(Blk.cell h 0).trans rfl, (Blk.cell h 1).trans rfl, Blk.frozen h 1⟩
theorem Tg.facts {w : World} {t : Nat} {nm vl : ByteArray} {off pos : Nat} (h : Tg w t nm vl off pos) : (w.cell? ⟨t, 0, none⟩ = some (.string nm) ∧ w.cell? ⟨t, 1, none⟩ = some (.string vl) ∧ w.cell? ⟨t, 2, none⟩ = some (.int .i64 (off : Int)) ∧ w.cell? ⟨t, 3, none⟩ = some (.int .i64 (pos : Int))) ∧
    w.frozen? ⟨t, 0, none⟩ = false ∧ w.frozen? ⟨t, 1, none⟩ = false ∧ w.frozen? ⟨t, 2, none⟩ = false ∧ w.frozen? ⟨t, 3, none⟩ = false :=
  ⟨⟨(Blk.cell h 0).trans rfl, (Blk.cell h 1).trans rfl, (Blk.cell h 2).trans rfl, (Blk.cell h 3).trans rfl⟩, Blk.frozen h 0, Blk.frozen h 1, Blk.frozen h 2, Blk.frozen h 3⟩
/-- The reader and its scanner behind a call's beginning. -/
structure LR (w0 w : World) (r g : Nat) (rv : Value) (s : ByteArray) (a : Nat) (no : Bool) : Prop where
  rd : Rd w r g rv
  sc : Sc w g s a no
  rg : r ≠ g
  aw : Aw [g] w0 w
section
variable {w0 w w' : World} {r g : Nat} {rv : Value} {s : ByteArray} {a a' : Nat} {no no' : Bool}
theorem LR.scan {S : List Nat} (h : LR w0 w r g rv s a no) (k : Aw S w w') (hs : Sc w' g s a' no') (hS : ∀ i, i ∈ S → i = g) : LR w0 w' r g rv s a' no' :=
  ⟨Blk.aw h.rd k (fun e => h.rg (hS _ e)), hs, h.rg, h.aw.trans (k.mono (fun i hi => by rw [hS i hi]; simp))⟩
theorem LR.alloc (h : LR w0 w r g rv s a no) (o : Obj) : LR w0 (w.alloc o) r g rv s a no := ⟨Blk.alloc h.rd o, Blk.alloc h.sc o, h.rg, h.aw.alloc o⟩
theorem LR.far (h : LR w0 w r g rv s a no) {p : Addr} (u : Value) (h1 : p.block ≠ r) (h2 : p.block ≠ g) (h4 : w0.heap.size ≤ p.block) : LR w0 (w.setCell p u) r g rv s a no :=
  ⟨Blk.far h.rd h1.symm u, Blk.far h.sc h2.symm u, h.rg, h.aw.setCell (.inr h4) u⟩
theorem LR.self (h : LR w0 w r g rv s a no) : LR w w r g rv s a no := ⟨h.rd, h.sc, h.rg, Aw.refl _ _⟩
theorem LR.rebase (h : LR w0 w r g rv s a no) (k : LR w w' r g rv s a' no') : LR w0 w' r g rv s a' no' := ⟨k.rd, k.sc, k.rg, h.aw.trans k.aw⟩
theorem LR.drew (h : LR w0 w r g rv s a no) : LR w0 w.drew r g rv s a no := ⟨h.rd, h.sc, h.rg, h.aw.drew⟩
theorem LR.drewN (h : LR w0 w r g rv s a no) (n : Nat) : LR w0 (w.drewN n) r g rv s a no := ⟨h.rd, h.sc, h.rg, h.aw.drewN n⟩
theorem LR.facts (h : LR w0 w r g rv s a no) : w.cell? ⟨r, 0, none⟩ = some (.pointer (some ⟨g, 0, none⟩)) := h.rd.facts.1
end
/-- The reader, its scanner, a tag of the call's own, the block of the result. -/
structure LU (w0 w : World) (r g : Nat) (rv : Value) (s : ByteArray) (a : Nat) (no : Bool) (t : Nat) (tn tv : ByteArray) (toff tpos : Nat) (u : Nat) : Prop where
  lr : LR w0 w r g rv s a no
  tg : Tg w t tn tv toff tpos
  tu : Tg w u ⟨#[]⟩ ⟨#[]⟩ 0 0
  tr : t ≠ r ∧ t ≠ g ∧ t ≠ u ∧ w0.heap.size ≤ t
  ur : u ≠ r ∧ u ≠ g ∧ w0.heap.size ≤ u
section
variable {w0 w w' : World} {r g : Nat} {rv : Value} {s : ByteArray} {a a' : Nat} {no no' : Bool} {t u : Nat} {tn tv : ByteArray} {toff tpos : Nat}
theorem LU.scan {S : List Nat} (h : LU w0 w r g rv s a no t tn tv toff tpos u) (k : Aw S w w') (hs : Sc w' g s a' no') (hS : ∀ i, i ∈ S → i = g) : LU w0 w' r g rv s a' no' t tn tv toff tpos u :=
  ⟨h.lr.scan k hs hS, Blk.aw h.tg k (fun e => h.tr.2.1 (hS _ e)), Blk.aw h.tu k (fun e => h.ur.2.1 (hS _ e)), h.tr, h.ur⟩
theorem LU.name (h : LU w0 w r g rv s a no t tn tv toff tpos u) (v : ByteArray) : LU w0 (w.setCell ⟨t, 0, none⟩ (.string v)) r g rv s a no t v tv toff tpos u :=
  ⟨h.lr.far _ h.tr.1 h.tr.2.1 h.tr.2.2.2, Blk.set_ h.tg 0 (.string v), Blk.far h.tu h.tr.2.2.1.symm _, h.tr, h.ur⟩
theorem LU.val (h : LU w0 w r g rv s a no t tn tv toff tpos u) (v : ByteArray) : LU w0 (w.setCell ⟨t, 1, none⟩ (.string v)) r g rv s a no t tn v toff tpos u :=
  ⟨h.lr.far _ h.tr.1 h.tr.2.1 h.tr.2.2.2, Blk.set_ h.tg 1 (.string v), Blk.far h.tu h.tr.2.2.1.symm _, h.tr, h.ur⟩
theorem LU.pos_ (h : LU w0 w r g rv s a no t tn tv toff tpos u) (k : Nat) : LU w0 (w.setCell ⟨t, 3, none⟩ (.int .i64 (k : Int))) r g rv s a no t tn tv toff k u :=
  ⟨h.lr.far _ h.tr.1 h.tr.2.1 h.tr.2.2.2, Blk.set_ h.tg 3 (.int .i64 (k : Int)), Blk.far h.tu h.tr.2.2.1.symm _, h.tr, h.ur⟩
theorem LU.out (h : LU w0 w r g rv s a no t tn tv toff tpos u) : LR w0 ((((w.setCell ⟨u, 0, none⟩ (.string tn)).setCell ⟨u, 1, none⟩ (.string tv)).setCell ⟨u, 2, none⟩ (.int .i64 (toff : Int))).setCell ⟨u, 3, none⟩ (.int .i64 (tpos : Int))) r g rv s a no :=
  (((h.lr.far _ h.ur.1 h.ur.2.1 h.ur.2.2).far _ h.ur.1 h.ur.2.1 h.ur.2.2).far _ h.ur.1 h.ur.2.1 h.ur.2.2).far _ h.ur.1 h.ur.2.1 h.ur.2.2
end
theorem Tryz.infoTag : (Tryz.prog.info? 45).map (fun i => (i.zero, i.size, i.bytes)) = some (some (.agg #[.string ⟨#[]⟩, .string ⟨#[]⟩, .int .i64 0, .int .i64 0]), 4, 48) := by kernel_rfl
theorem Tryz.infoField : (Tryz.prog.info? 321).map (fun i => (i.zero, i.size, i.bytes)) = some (some (.agg #[.string ⟨#[]⟩, .string ⟨#[]⟩, .int .i64 0, .int .i64 0, .int .i64 0]), 5, 56) := by kernel_rfl
theorem Tryz.infoRow : (Tryz.prog.info? 43).map (fun i => (i.zero, i.size, i.bytes)) = some (some (.agg #[.int .i64 0, .string ⟨#[]⟩, .int .i64 0, .slice none 0 0, .slice none 0 0, .string ⟨#[]⟩, .int .i64 0, .bool false, .string ⟨#[]⟩, .int .i64 0]), 10, 136) := by kernel_rfl
/-- Two rows of the call's own, of two types. -/
theorem own_own_ne {w : World} {base base' : Nat} {e e' : TypeId} {size size' n n' : Nat} {v v' : Value} {xs xs' : List Value} (h : w.ownsRow base e size v n xs) (h' : w.ownsRow base' e' size' v' n' xs') (hne : e ≠ e') : ∀ k, v.ownBlock = some k → v'.ownBlock ≠ some k := by
  intro k hk hk'
  rcases h'.2 with ⟨rfl, _⟩ | ⟨g', cap, cur, rfl, _, hh, _⟩
  · simp [Value.ownBlock] at hk'
  · have : g' = k := by simpa [Value.ownBlock] using hk'
    subst this
    exact own_blk_ne h (t := e') (cs := cur) hh hne hk
/-- The block of a row under way. -/
def Rw (w : World) (x : Nat) (K : Nat) (nm : ByteArray) (off : Nat) (tv : Value) (text : ByteArray) (pos : Nat) (timed : Bool) (time : ByteArray) (wh : Nat) : Prop :=
  Blk w x 43 #[.int .i64 (K : Int), .string nm, .int .i64 (off : Int), tv, .slice none 0 0, .string text, .int .i64 (pos : Int), .bool timed, .string time, .int .i64 (wh : Int)]
theorem Rw.facts {w : World} {x K : Nat} {nm : ByteArray} {off : Nat} {tv : Value} {text : ByteArray} {pos : Nat} {timed : Bool} {time : ByteArray} {wh : Nat} (h : Rw w x K nm off tv text pos timed time wh) :
    (w.cell? ⟨x, 0, none⟩ = some (.int .i64 (K : Int)) ∧ w.cell? ⟨x, 1, none⟩ = some (.string nm) ∧ w.cell? ⟨x, 2, none⟩ = some (.int .i64 (off : Int)) ∧ w.cell? ⟨x, 3, none⟩ = some tv ∧ w.cell? ⟨x, 4, none⟩ = some (.slice none 0 0) ∧ w.cell? ⟨x, 5, none⟩ = some (.string text) ∧ w.cell? ⟨x, 6, none⟩ = some (.int .i64 (pos : Int)) ∧ w.cell? ⟨x, 7, none⟩ = some (.bool timed) ∧ w.cell? ⟨x, 8, none⟩ = some (.string time) ∧ w.cell? ⟨x, 9, none⟩ = some (.int .i64 (wh : Int))) ∧
    w.frozen? ⟨x, 0, none⟩ = false ∧ w.frozen? ⟨x, 1, none⟩ = false ∧ w.frozen? ⟨x, 2, none⟩ = false ∧ w.frozen? ⟨x, 3, none⟩ = false ∧ w.frozen? ⟨x, 4, none⟩ = false ∧ w.frozen? ⟨x, 5, none⟩ = false ∧ w.frozen? ⟨x, 6, none⟩ = false ∧ w.frozen? ⟨x, 7, none⟩ = false ∧ w.frozen? ⟨x, 8, none⟩ = false ∧ w.frozen? ⟨x, 9, none⟩ = false :=
  ⟨⟨(Blk.cell h 0).trans rfl, (Blk.cell h 1).trans rfl, (Blk.cell h 2).trans rfl, (Blk.cell h 3).trans rfl, (Blk.cell h 4).trans rfl, (Blk.cell h 5).trans rfl, (Blk.cell h 6).trans rfl, (Blk.cell h 7).trans rfl, (Blk.cell h 8).trans rfl, (Blk.cell h 9).trans rfl⟩, Blk.frozen h 0, Blk.frozen h 1, Blk.frozen h 2, Blk.frozen h 3, Blk.frozen h 4, Blk.frozen h 5, Blk.frozen h 6, Blk.frozen h 7, Blk.frozen h 8, Blk.frozen h 9⟩
/-- The reader, the scanner, the row under way, its tags. -/
structure LX (w0 w : World) (r g x : Nat) (rv : Value) (s : ByteArray) (a : Nat) (no : Bool) (K : Nat) (nm : ByteArray) (off : Nat) (tv : Value) (tags : List MTag) (text : ByteArray) (pos : Nat) (timed : Bool) (time : ByteArray) (wh : Nat) : Prop where
  lr : LR w0 w r g rv s a no
  rw_ : Rw w x K nm off tv text pos timed time wh
  tg : w.ownsRow w0.heap.size 45 4 tv tags.length (tags.flatMap tagCell)
  rl : r < w0.heap.size
  gl : g < w0.heap.size
  xl : w0.heap.size ≤ x
section
variable {w0 w w' : World} {r g x K : Nat} {rv : Value} {s : ByteArray} {a a' : Nat} {no no' : Bool} {nm : ByteArray} {off : Nat} {tv tv' : Value} {tags : List MTag} {text : ByteArray} {pos : Nat} {timed : Bool} {time : ByteArray} {wh : Nat}
theorem LX.facts (h : LX w0 w r g x rv s a no K nm off tv tags text pos timed time wh) : w.cell? ⟨r, 0, none⟩ = some (.pointer (some ⟨g, 0, none⟩)) := h.lr.rd.facts.1
theorem LX.scan {S : List Nat} (h : LX w0 w r g x rv s a no K nm off tv tags text pos timed time wh) (k : Aw S w w') (hs : Sc w' g s a' no') (hS : ∀ i, i ∈ S → i = g) : LX w0 w' r g x rv s a' no' K nm off tv tags text pos timed time wh :=
  ⟨h.lr.scan k hs hS, Blk.aw h.rw_ k (fun e => by have := hS _ e; have := h.gl; have := h.xl; omega),
    own_aw h.tg k (fun i hi e => by have := hS _ e; have := h.gl; have := (h.tg.lt i hi).1; omega), h.rl, h.gl, h.xl⟩
theorem LX.call (h : LX w0 w r g x rv s a no K nm off tv tags text pos timed time wh) (k : LR w w' r g rv s a' no') : LX w0 w' r g x rv s a' no' K nm off tv tags text pos timed time wh :=
  h.scan k.aw k.sc (by simp)
theorem LX.drew (h : LX w0 w r g x rv s a no K nm off tv tags text pos timed time wh) : LX w0 w.drew r g x rv s a no K nm off tv tags text pos timed time wh := ⟨h.lr.drew, h.rw_, h.tg, h.rl, h.gl, h.xl⟩
theorem LX.alloc (h : LX w0 w r g x rv s a no K nm off tv tags text pos timed time wh) (o : Obj) : LX w0 (w.alloc o) r g x rv s a no K nm off tv tags text pos timed time wh :=
  ⟨h.lr.alloc o, Blk.alloc h.rw_ o, own_aw (S := []) h.tg ((Aw.refl _ _).alloc o) (fun i hi e => by simp at e), h.rl, h.gl, h.xl⟩
/-- A cell of the row under way is written. -/
theorem LX.put {K' : Nat} {nm' : ByteArray} {off' : Nat} {text' : ByteArray} {pos' : Nat} {timed' : Bool} {time' : ByteArray} {wh' : Nat} (h : LX w0 w r g x rv s a no K nm off tv tags text pos timed time wh) (i : Nat) (u : Value) (hu : Rw (w.setCell ⟨x, i, none⟩ u) x K' nm' off' tv text' pos' timed' time' wh') : LX w0 (w.setCell ⟨x, i, none⟩ u) r g x rv s a no K' nm' off' tv tags text' pos' timed' time' wh' := by
  have hr := h.rl
  have hg := h.gl
  have hx := h.xl
  have h1 : x ≠ r := by omega
  have h2 : x ≠ g := by omega
  have k : Aw [x] w (w.setCell ⟨x, i, none⟩ u) := (Aw.refl _ _).setCell (.inl (by simp)) u
  exact ⟨h.lr.far u h1 h2 hx, hu, own_aw h.tg k (fun j hj e => by
      simp only [List.mem_cons, List.not_mem_nil, or_false] at e
      subst e; exact own_blk_ne h.tg h.rw_ (by decide) hj), h.rl, h.gl, h.xl⟩
theorem LX.name (h : LX w0 w r g x rv s a no K nm off tv tags text pos timed time wh) (v : ByteArray) : LX w0 (w.setCell ⟨x, 1, none⟩ (.string v)) r g x rv s a no K v off tv tags text pos timed time wh := h.put 1 _ (Blk.set_ h.rw_ 1 (.string v))
theorem LX.text_ (h : LX w0 w r g x rv s a no K nm off tv tags text pos timed time wh) (v : ByteArray) : LX w0 (w.setCell ⟨x, 5, none⟩ (.string v)) r g x rv s a no K nm off tv tags v pos timed time wh := h.put 5 _ (Blk.set_ h.rw_ 5 (.string v))
theorem LX.pos_ (h : LX w0 w r g x rv s a no K nm off tv tags text pos timed time wh) (v : Nat) : LX w0 (w.setCell ⟨x, 6, none⟩ (.int .i64 (v : Int))) r g x rv s a no K nm off tv tags text v timed time wh := h.put 6 _ (Blk.set_ h.rw_ 6 (.int .i64 (v : Int)))
theorem LX.timed_ (h : LX w0 w r g x rv s a no K nm off tv tags text pos timed time wh) (v : Bool) : LX w0 (w.setCell ⟨x, 7, none⟩ (.bool v)) r g x rv s a no K nm off tv tags text pos v time wh := h.put 7 _ (Blk.set_ h.rw_ 7 (.bool v))
theorem LX.time_ (h : LX w0 w r g x rv s a no K nm off tv tags text pos timed time wh) (v : ByteArray) : LX w0 (w.setCell ⟨x, 8, none⟩ (.string v)) r g x rv s a no K nm off tv tags text pos timed v wh := h.put 8 _ (Blk.set_ h.rw_ 8 (.string v))
theorem LX.when_ (h : LX w0 w r g x rv s a no K nm off tv tags text pos timed time wh) (v : Nat) : LX w0 (w.setCell ⟨x, 9, none⟩ (.int .i64 (v : Int))) r g x rv s a no K nm off tv tags text pos timed time v := h.put 9 _ (Blk.set_ h.rw_ 9 (.int .i64 (v : Int)))
theorem LX.kind_ (h : LX w0 w r g x rv s a no K nm off tv tags text pos timed time wh) (v : Nat) {u : Value} (hu : u = .int .i64 (v : Int)) : LX w0 (w.setCell ⟨x, 0, none⟩ u) r g x rv s a no v nm off tv tags text pos timed time wh := by
  rw [hu]; exact h.put 0 _ (Blk.set_ h.rw_ 0 (.int .i64 (v : Int)))
/-- One more tag is put to those of the row. -/
theorem LX.tags_ (h : LX w0 w r g x rv s a no K nm off tv tags text pos timed time wh) (k : Aw tv.ownBlock.toList w w') {t : MTag} (ho : w'.ownsRow w0.heap.size 45 4 tv' (tags.length + 1) (tags.flatMap tagCell ++ tagCell t)) : LX w0 (w'.setCell ⟨x, 3, none⟩ tv') r g x rv s a no K nm off tv' (tags ++ [t]) text pos timed time wh := by
  have hr := h.rl
  have hg := h.gl
  have hx := h.xl
  have h1 : x ≠ r := by omega
  have h2 : x ≠ g := by omega
  have hm : ∀ i, i ∈ tv.ownBlock.toList → w0.heap.size ≤ i := fun i hi => (h.tg.lt i (by simpa using hi)).1
  have hrw := Blk.aw h.rw_ k (fun e => own_blk_ne h.tg h.rw_ (by decide) (by simpa using e))
  have hlr : LR w0 w' r g rv s a no := ⟨Blk.aw h.lr.rd k (fun e => by have := hm _ e; omega), h.lr.sc.aw k (fun e => by have := hm _ e; omega), h.lr.rg, h.lr.aw.own k (fun i hi => .inr (hm i hi))⟩
  have k2 : Aw [x] w' (w'.setCell ⟨x, 3, none⟩ tv') := (Aw.refl _ _).setCell (.inl (by simp)) tv'
  have ht : w'.ownsRow w0.heap.size 45 4 tv' (tags ++ [t]).length ((tags ++ [t]).flatMap tagCell) := by simpa using ho
  exact ⟨hlr.far _ h1 h2 hx, Blk.set_ hrw 3 tv', own_aw ht k2 (fun j hj e => by
      simp only [List.mem_cons, List.not_mem_nil, or_false] at e
      subst e; exact own_blk_ne ht hrw (by decide) hj), h.rl, h.gl, h.xl⟩
/-- All tags at once. -/
theorem LX.tagsAll {tags' : List MTag} (h : LX w0 w r g x rv s a no K nm off tv tags text pos timed time wh) (ho : w.ownsRow w0.heap.size 45 4 tv' tags'.length (tags'.flatMap tagCell)) : LX w0 (w.setCell ⟨x, 3, none⟩ tv') r g x rv s a no K nm off tv' tags' text pos timed time wh := by
  have hr := h.rl
  have hg := h.gl
  have hx := h.xl
  have h1 : x ≠ r := by omega
  have h2 : x ≠ g := by omega
  have k2 : Aw [x] w (w.setCell ⟨x, 3, none⟩ tv') := (Aw.refl _ _).setCell (.inl (by simp)) tv'
  exact ⟨h.lr.far _ h1 h2 hx, Blk.set_ h.rw_ 3 tv', own_aw ho k2 (fun j hj e => by
      simp only [List.mem_cons, List.not_mem_nil, or_false] at e
      subst e; exact own_blk_ne ho h.rw_ (by decide) hj), h.rl, h.gl, h.xl⟩
end
theorem own_more {w : World} {base base' : Nat} {e : TypeId} {size n : Nat} {v : Value} {xs : List Value} (h : w.ownsRow base e size v n xs) (hb : base' ≤ base) : w.ownsRow base' e size v n xs := by
  obtain ⟨hl, h | ⟨g, cap, cur, hv, hg, r⟩⟩ := h
  · exact ⟨hl, .inl h⟩
  · exact ⟨hl, .inr ⟨g, cap, cur, hv, by omega, r⟩⟩
/-- A row whose tags are the call's own, without fields. -/
def OwnV (w : World) (base : Nat) (x : VRow) : Prop :=
  w.ownsRow base 45 4 (.slice x.tA x.row.tags.length x.tc) x.row.tags.length (x.row.tags.flatMap tagCell) ∧ w.ownsRow base 321 5 (.slice x.fA x.row.fields.length x.fc) x.row.fields.length (x.row.fields.flatMap fieldCell)
theorem own_form {w : World} {base : Nat} {e : TypeId} {size n : Nat} {v : Value} {xs : List Value} (h : w.ownsRow base e size v n xs) : ∃ A c, v = .slice A n c := by
  obtain ⟨hl, ⟨rfl, rfl⟩ | ⟨g, cap, cur, rfl, r⟩⟩ := h
  · exact ⟨_, _, rfl⟩
  · exact ⟨_, _, rfl⟩
/-- The row under way, put to the reader's rows. -/
def rowOf (K : Nat) (nm : ByteArray) (off : Nat) (tA : Option Addr) (tags : List MTag) (tc : Nat) (text : ByteArray) (pos : Nat) (timed : Bool) (time : ByteArray) (wh : Nat) : VRow := ⟨⟨K, nm, off, tags, [], text, pos, timed, time, wh⟩, tA, tc, none, 0⟩
theorem line_end {w w5 w8 : World} {r g x K : Nat} {rv rv' : Value} {s : ByteArray} {a : Nat} {no : Bool} {nm : ByteArray} {off : Nat} {tA : Option Addr} {tags : List MTag} {tc : Nat} {text : ByteArray} {pos : Nat} {timed : Bool} {time : ByteArray} {wh base n : Nat} {xs : List Value}
    (L : LX w w5 r g x rv s a no K nm off (.slice tA tags.length tc) tags text pos timed time wh) (hown : w5.ownsRow base 43 10 rv n xs) (hb : base ≤ w.heap.size) (hA : Aw rv.ownBlock.toList w5 w8) (ho : w8.ownsRow base 43 10 rv' (n + 1) (xs ++ rowCell (rowOf K nm off tA tags tc text pos timed time wh))) :
    Rd (w8.setCell ⟨r, 1, none⟩ rv') r g rv' ∧ Sc (w8.setCell ⟨r, 1, none⟩ rv') g s a no ∧ (w8.setCell ⟨r, 1, none⟩ rv').ownsRow base 43 10 rv' (n + 1) (xs ++ rowCell (rowOf K nm off tA tags tc text pos timed time wh)) ∧ OwnV (w8.setCell ⟨r, 1, none⟩ rv') base (rowOf K nm off tA tags tc text pos timed time wh) ∧ Aw (g :: r :: rv.ownBlock.toList) w (w8.setCell ⟨r, 1, none⟩ rv') := by
  have hrd := Blk.aw L.lr.rd hA (fun e => own_blk_ne hown L.lr.rd (by decide) (by simpa using e))
  have hsc := Blk.aw L.lr.sc hA (fun e => own_blk_ne hown L.lr.sc (by decide) (by simpa using e))
  have htg := own_aw L.tg hA (fun i hi e => own_own_ne L.tg hown (by decide) i hi (by simpa using e))
  have k2 : Aw [r] w8 (w8.setCell ⟨r, 1, none⟩ rv') := (Aw.refl _ _).setCell (.inl (by simp)) rv'
  refine ⟨Blk.set_ hrd 1 rv', Blk.far hsc L.lr.rg.symm _, own_aw ho k2 (fun i hi e => ?_), ⟨own_more (own_aw htg k2 (fun i hi e => ?_)) hb, World.ownsRow_nil _ _ _ _⟩, ?_⟩
  · simp only [List.mem_cons, List.not_mem_nil, or_false] at e
    subst e; exact own_blk_ne ho hrd (by decide) hi
  · simp only [List.mem_cons, List.not_mem_nil, or_false] at e
    subst e; exact own_blk_ne htg hrd (by decide) hi
  · refine ((L.lr.aw.mono (by simp)).trans (hA.mono (fun k hk => by simp [List.mem_cons]; exact .inr (.inr (by simpa using hk))))).trans (k2.mono (by simp))
end
section
section
variable {P : Program} (w : World)
theorem run_append_of_nil (base : Nat) (t ty e : TypeId) (i : TypeInfo) (size : Nat) (ht : P.underlying t = some (.slice e)) (hi : P.info? e = some i)
    (v : Value) (n : Nat) (xs : List Value) (hown : w.ownsRow base e size v n xs) (c : Nat) : (Builtin.append_ #[t, t] ty #[v, .slice none 0 c]).run P w = .ok v w := by
  rcases hown.2 with ⟨rfl, rfl⟩ | ⟨g, cap, cur, rfl, _, _, hnc, _⟩
  · simp [Builtin.append_, run_underlying ht, sizeOf, typeInfo, hi, Builtin.lenOf, Builtin.firstCells]
  · simp [Builtin.append_, run_underlying ht, sizeOf, typeInfo, hi, Builtin.lenOf, Builtin.firstCells, hnc, storeCells]
theorem run_append_any (base : Nat) (t ty e : TypeId) (i : TypeInfo) (z : Value) (size bytes : Nat) (ht : P.underlying t = some (.slice e)) (hi : P.info? e = some i) (hz : i.zero = some z)
    (hsize : i.size = size) (hby : i.bytes = bytes) (hzs : z.cells.size = size) (hsz : 0 < size)
    (v : Value) (n : Nat) (xs : List Value) (hown : w.ownsRow base e size v n xs)
    (B : Nat) (A : Option Addr) (m c : Nat) (news : List Value) (hr : Reads w B size A m news) (h1 : ∀ u ∈ news, u.oneCell' = true)
    (h63 : n + m ≤ maxLen) (hbytes : (n + m) * bytes ≤ 140737488355328) (hbase : base ≤ w.heap.size) :
    ∃ v' w', (Builtin.append_ #[t, t] ty #[v, .slice A m c]).run P w = .ok v' w' ∧ w'.ownsRow base e size v' (n + m) (xs ++ news) ∧ w.grownBy w' v.ownBlock ∧
      (v'.ownBlock = v.ownBlock ∨ v'.ownBlock = some w.heap.size) := by
  rcases A with _ | ad
  · have hm : m = 0 := by
      rcases Nat.eq_zero_or_pos m with h0 | h0
      · exact h0
      · obtain ⟨ad, h, _⟩ := hr.2 h0
        cases h
    subst hm
    have hn : news = [] := List.eq_nil_of_length_eq_zero (by simpa using hr.1)
    subst hn
    exact ⟨v, w, run_append_of_nil w base t ty e i size ht hi v n xs hown c, by simpa using hown, World.grownBy.refl w _, .inl rfl⟩
  · have hcells : ∀ j u, news[j]? = some u → w.cell? (ad.add j) = some u := by
      intro j u hu
      rcases Nat.eq_zero_or_pos m with h0 | h0
      · subst h0
        have hn : news = [] := List.eq_nil_of_length_eq_zero (by simpa using hr.1)
        subst hn
        simp at hu
      · obtain ⟨ad', h, _, hc⟩ := hr.2 h0
        injection h with h
        subst h
        exact hc j u hu
    obtain ⟨v', w', hrun, h2, h3, _, h5⟩ := run_append_own_at (P := P) w base t ty e i z size bytes ht hi hz hsize hby hzs hsz v n xs hown ad m c news hr.1 hcells h1 h63 hbytes hbase
    exact ⟨v', w', hrun, h2, h3, h5⟩
theorem wp_append_any {o : Oper} {a : Act} {K : Act → World → Prop} {Q : Exit → Act → World → Prop} (s x : Operand) (t : TypeId)
    (ho : o.op = .call { callee := .builtin .append, args := #[s, x], argTypes := #[t, t] })
    (base : Nat) (e : TypeId) (i : TypeInfo) (z : Value) (size bytes : Nat) (ht : P.underlying t = some (.slice e)) (hi : P.info? e = some i) (hz : i.zero = some z)
    (hsize : i.size = size) (hby : i.bytes = bytes) (hzs : z.cells.size = size) (hsz : 0 < size)
    (v : Value) (n : Nat) (xs : List Value) (hs : a.eval s = v) (hown : w.ownsRow base e size v n xs)
    (B : Nat) (A : Option Addr) (m c : Nat) (news : List Value) (hx : a.eval x = .slice A m c) (hr : Reads w B size A m news) (h1 : ∀ u ∈ news, u.oneCell' = true)
    (h63 : n + m ≤ maxLen) (hbytes : (n + m) * bytes ≤ 140737488355328) (hbase : base ≤ w.heap.size)
    (h : ∀ v' w', w'.ownsRow base e size v' (n + m) (xs ++ news) → w.grownBy w' v.ownBlock → (v'.ownBlock = v.ownBlock ∨ v'.ownBlock = some w.heap.size) → K (a.put o.dst v') w') : o.wp P a w K Q := by
  obtain ⟨v', w', hrun, h2, h3, h4⟩ := run_append_any (P := P) w base t o.type e i z size bytes ht hi hz hsize hby hzs hsz v n xs hown B A m c news hr h1 h63 hbytes hbase
  unfold Oper.wp execOp
  simp only [ho, resolve, invoke, builtin, Sem.run_bind, Sem.run_pure, Result.andThen_ok, List.map_toArray, List.map_cons, List.map_nil, hs, hx, hrun]
  exact h v' w' h2 h3 h4
theorem wpList_append_any {ops : Array Oper} {rest : List Oper} {o : Oper} {a : Act} {Q : Exit → Act → World → Prop} (hgd : o.guard = none) (s x : Operand) (t : TypeId)
    (ho : o.op = .call { callee := .builtin .append, args := #[s, x], argTypes := #[t, t] })
    (base : Nat) (e : TypeId) (i : TypeInfo) (z : Value) (size bytes : Nat) (ht : P.underlying t = some (.slice e)) (hi : P.info? e = some i) (hz : i.zero = some z)
    (hsize : i.size = size) (hby : i.bytes = bytes) (hzs : z.cells.size = size) (hsz : 0 < size)
    (v : Value) (n : Nat) (xs : List Value) (hs : a.eval s = v) (hown : w.ownsRow base e size v n xs)
    (B : Nat) (A : Option Addr) (m c : Nat) (news : List Value) (hx : a.eval x = .slice A m c) (hr : Reads w B size A m news) (h1 : ∀ u ∈ news, u.oneCell' = true)
    (h63 : n + m ≤ maxLen) (hbytes : (n + m) * bytes ≤ 140737488355328) (hbase : base ≤ w.heap.size)
    (h : ∀ v' w', w'.ownsRow base e size v' (n + m) (xs ++ news) → w.grownBy w' v.ownBlock → (v'.ownBlock = v.ownBlock ∨ v'.ownBlock = some w.heap.size) → wpList P ops Q rest (a.put o.dst v') w') : wpList P ops Q (o :: rest) a w :=
  wpList_plain hgd fun _ hK => wp_append_any w s x t ho base e i z size bytes ht hi hz hsize hby hzs hsz v n xs hs hown B A m c news hx hr h1 h63 hbytes hbase fun v' w' h2 h3 h4 => hK _ _ (h v' w' h2 h3 h4)
theorem step_append_any {ops : Array Oper} {o : Oper} {a : Act} {K : Act → World → Prop} {Q : Exit → Act → World → Prop} {E : Prop} (hgd : o.guard = none) (s x : Operand) (t : TypeId)
    (ho : o.op = .call { callee := .builtin .append, args := #[s, x], argTypes := #[t, t] })
    (base : Nat) (e : TypeId) (i : TypeInfo) (z : Value) (size bytes : Nat) (ht : P.underlying t = some (.slice e)) (hi : P.info? e = some i) (hz : i.zero = some z)
    (hsize : i.size = size) (hby : i.bytes = bytes) (hzs : z.cells.size = size) (hsz : 0 < size)
    (v : Value) (n : Nat) (xs : List Value) (hs : a.eval s = v) (hown : w.ownsRow base e size v n xs)
    (B : Nat) (A : Option Addr) (m c : Nat) (news : List Value) (hx : a.eval x = .slice A m c) (hr : Reads w B size A m news) (h1 : ∀ u ∈ news, u.oneCell' = true)
    (h63 : n + m ≤ maxLen) (hbytes : (n + m) * bytes ≤ 140737488355328) (hbase : base ≤ w.heap.size)
    (h : ∀ v' w', w'.ownsRow base e size v' (n + m) (xs ++ news) → w.grownBy w' v.ownBlock → (v'.ownBlock = v.ownBlock ∨ v'.ownBlock = some w.heap.size) → K (a.put o.dst v') w') :
    if Region.wanted o (yielded ops a.tmps) = true then Oper.wp P o a w K Q else E := by
  have hw : Region.wanted o (yielded ops a.tmps) = true := by simp [Region.wanted, hgd]
  rw [if_pos hw]
  exact wp_append_any w s x t ho base e i z size bytes ht hi hz hsize hby hzs hsz v n xs hs hown B A m c news hx hr h1 h63 hbytes hbase h
end
theorem rows_reads {α : Type} {f : α → List Value} {size : Nat} (hf : ∀ x, (f x).length = size) (hpos : 0 < size) {w : World} {B : Nat} {A : Option Addr} {n : Nat} {l : List α} (h : IsRows f size w B A n l) : Reads w B size A n (l.flatMap f) := by
  refine ⟨?_, fun hn => ?_⟩
  · rw [← h.1]
    clear h
    induction l with
    | nil => simp
    | cons x l ih => rw [List.flatMap_cons, List.length_append, hf, ih, List.length_cons, Nat.add_mul]; omega
  · obtain ⟨b, off, rfl, hb, hc⟩ := h.2 hn
    refine ⟨_, rfl, hb, fun j u hj => ?_⟩
    have he : (⟨b, off, none⟩ : Addr).add j = ⟨b, off + j, none⟩ := by unfold Addr.add; split <;> simp_all
    rw [he]
    have hjl := (List.getElem?_eq_some_iff.1 hj).1
    have hall : ∀ (l : List α) (j : Nat) (u : Value), (l.flatMap f)[j]? = some u → ∃ x, l[j / size]? = some x ∧ (f x)[j % size]? = some u := by
      intro l
      induction l with
      | nil => intro j u hu; simp at hu
      | cons x l ih =>
        intro j u hu
        rw [List.flatMap_cons] at hu
        rcases Nat.lt_or_ge j size with hlt | hge
        · rw [List.getElem?_append_left (by rw [hf]; exact hlt)] at hu
          refine ⟨x, ?_, ?_⟩
          · rw [Nat.div_eq_of_lt hlt]; rfl
          · rw [Nat.mod_eq_of_lt hlt]; exact hu
        · rw [List.getElem?_append_right (by rw [hf]; exact hge), hf] at hu
          obtain ⟨y, h1, h2⟩ := ih _ _ hu
          refine ⟨y, ?_, ?_⟩
          · rw [Nat.div_eq_sub_div hpos hge]; simpa using h1
          · rw [Nat.mod_eq_sub_mod hge]; exact h2
    obtain ⟨x, h1, h2⟩ := hall l j u hj
    have h3 := hc _ x _ u h1 h2
    rw [Nat.div_add_mod'] at h3
    exact h3
theorem strs_one (l : List ByteArray) : ∀ u ∈ l.flatMap strCell, u.oneCell' = true := by
  intro u hu
  obtain ⟨x, _, hx⟩ := List.mem_flatMap.1 hu
  simp only [strCell, List.mem_singleton] at hx
  subst hx; rfl
theorem strs_reads {w : World} {B : Nat} {A : Option Addr} {n : Nat} {l : List ByteArray} (h : IsRows strCell 1 w B A n l) : Reads w B 1 A n (l.flatMap strCell) := rows_reads (f := strCell) (fun _ => rfl) (by decide) h
theorem rows_cut {α : Type} {f : α → List Value} {size : Nat} {w : World} {B : Nat} {b off n : Nat} {l : List α} (k : Nat) (h : IsRows f size w B (some ⟨b, off, none⟩) n l) : IsRows f size w B (some ⟨b, off + k * size, none⟩) (n - k) (l.drop k) :=
  ⟨by rw [List.length_drop, h.1], fun hn => by
    obtain ⟨b', off', e, hb, hc⟩ := h.2 (by omega)
    cases e
    refine ⟨_, _, rfl, hb, fun i x j u hx hu => ?_⟩
    have := hc (k + i) x j u (by rw [← hx, List.getElem?_drop]) hu
    rw [Nat.add_mul] at this
    rw [← this]; congr 2; omega⟩
theorem rows_to {α : Type} {f : α → List Value} {size : Nat} {w : World} {B : Nat} {b off n : Nat} {l : List α} (k : Nat) (hk : k ≤ n) (h : IsRows f size w B (some ⟨b, off, none⟩) n l) : IsRows f size w B (some ⟨b, off, none⟩) k (l.take k) :=
  ⟨by rw [List.length_take, h.1]; omega, fun hn => by
    obtain ⟨b', off', e, hb, hc⟩ := h.2 (by omega)
    refine ⟨_, _, e, hb, fun i x j u hx hu => hc i x j u ?_ hu⟩
    rw [List.getElem?_take] at hx
    split at hx
    · exact hx
    · cases hx⟩
end
section
theorem OwnV.aw {S : List Nat} {w w' : World} {base : Nat} {x : VRow} (h : OwnV w base x) (k : Aw S w w') (hS : ∀ i, i ∈ S → (∀ n v xs, w.ownsRow base 45 4 v n xs → v.ownBlock ≠ some i) ∧ (∀ n v xs, w.ownsRow base 321 5 v n xs → v.ownBlock ≠ some i)) : OwnV w' base x :=
  ⟨own_aw h.1 k (fun i hi e => (hS i e).1 _ _ _ h.1 hi), own_aw h.2 k (fun i hi e => (hS i e).2 _ _ _ h.2 hi)⟩
structure RX (w0 w : World) (r g : Nat) (rv : Value) (s : ByteArray) (a : Nat) (no : Bool) (acc : List VRow) : Prop where
  rd : Rd w r g rv
  sc : Sc w g s a no
  own : w.ownsRow w0.heap.size 43 10 rv acc.length (acc.flatMap rowCell)
  all : ∀ x, x ∈ acc → OwnV w w0.heap.size x
  bl : Below w0.heap.size w0 w
  rg : r ≠ g
  rl : w0.heap.size ≤ r
  gl : w0.heap.size ≤ g
theorem RX.line {w0 w w' : World} {r g : Nat} {rv rv' : Value} {s : ByteArray} {a a' : Nat} {no no' : Bool} {acc : List VRow} {x : VRow} (h : RX w0 w r g rv s a no acc) (h1 : Rd w' r g rv') (h2 : Sc w' g s a' no') (h3 : w'.ownsRow w0.heap.size 43 10 rv' (acc.length + 1) (acc.flatMap rowCell ++ rowCell x)) (h4 : OwnV w' w0.heap.size x) (h5 : Aw (g :: r :: rv.ownBlock.toList) w w') : RX w0 w' r g rv' s a' no' (acc ++ [x]) := by
  refine ⟨h1, h2, by simpa using h3, fun y hy => ?_, h.bl.trans (h5.bel_of (fun i hi => ?_) h.bl.size), h.rg, h.rl, h.gl⟩
  · rcases List.mem_append.1 hy with hy | hy
    · refine (h.all y hy).aw h5 (fun i hi => ?_)
      simp only [List.mem_cons] at hi
      rcases hi with rfl | rfl | hi
      · exact ⟨fun n v xs k => own_blk_ne k h.sc (by decide), fun n v xs k => own_blk_ne k h.sc (by decide)⟩
      · exact ⟨fun n v xs k => own_blk_ne k h.rd (by decide), fun n v xs k => own_blk_ne k h.rd (by decide)⟩
      · have hi : rv.ownBlock = some i := by simpa using hi
        exact ⟨fun n v xs k e => own_own_ne k h.own (by decide) i e hi, fun n v xs k e => own_own_ne k h.own (by decide) i e hi⟩
    · rw [List.mem_singleton.1 hy]; exact h4
  · simp only [List.mem_cons] at hi
    rcases hi with rfl | rfl | hi
    · exact h.gl
    · exact h.rl
    · exact (h.own.lt i (by simpa using hi)).1
theorem RX.scan {w0 w w' : World} {S : List Nat} {r g : Nat} {rv : Value} {s : ByteArray} {a a' : Nat} {no no' : Bool} {acc : List VRow} (h : RX w0 w r g rv s a no acc) (k : Aw S w w') (hs : Sc w' g s a' no') (hS : ∀ i, i ∈ S → i = g) : RX w0 w' r g rv s a' no' acc := by
  refine ⟨Blk.aw h.rd k (fun e => h.rg (hS _ e)), hs, own_aw h.own k (fun i hi e => ?_), fun x hx => (h.all x hx).aw k (fun i hi => ?_), h.bl.trans (k.bel_of (fun i hi => by rw [hS i hi]; exact h.gl) h.bl.size), h.rg, h.rl, h.gl⟩
  · rw [hS i e] at hi; exact own_blk_ne h.own h.sc (by decide) hi
  · rw [hS i hi]; exact ⟨fun n v xs q => own_blk_ne q h.sc (by decide), fun n v xs q => own_blk_ne q h.sc (by decide)⟩
theorem RX.lr {w0 w : World} {r g : Nat} {rv : Value} {s : ByteArray} {a : Nat} {no : Bool} {acc : List VRow} (h : RX w0 w r g rv s a no acc) : LR w w r g rv s a no := ⟨h.rd, h.sc, h.rg, Aw.refl _ _⟩
/-- Rows that a call tells, with their tags, their fields. -/
def HasRows (w : World) (B : Nat) (A : Option Addr) (n : Nat) (rows : List MRow) : Prop :=
  ∃ l : List VRow, l.map VRow.row = rows ∧ IsRows rowCell 10 w B A n l ∧ ∀ x ∈ l, IsRows tagCell 4 w B x.tA x.row.tags.length x.row.tags ∧ IsRows fieldCell 5 w B x.fA x.row.fields.length x.row.fields
theorem HasRows.nil_ {w : World} {B : Nat} {A : Option Addr} : HasRows w B A 0 [] := ⟨[], rfl, IsRows.nil_, by simp⟩
theorem HasRows.below {w w' : World} {B : Nat} {A : Option Addr} {n : Nat} {rows : List MRow} (h : HasRows w B A n rows) (k : Below B w w') : HasRows w' B A n rows := by
  obtain ⟨l, h1, h2, h3⟩ := h
  exact ⟨l, h1, h2.below k, fun x hx => ⟨(h3 x hx).1.below k, (h3 x hx).2.below k⟩⟩
theorem HasRows.more {w : World} {B B' : Nat} {A : Option Addr} {n : Nat} {rows : List MRow} (h : HasRows w B A n rows) (k : B ≤ B') : HasRows w B' A n rows := by
  obtain ⟨l, h1, h2, h3⟩ := h
  exact ⟨l, h1, h2.more k, fun x hx => ⟨(h3 x hx).1.more k, (h3 x hx).2.more k⟩⟩
theorem own_rows2 {α : Type} {f : α → List Value} {size : Nat} (hf : ∀ x, (f x).length = size) {w : World} {base : Nat} {e : TypeId} {A : Option Addr} {c n : Nat} {l : List α} (h : w.ownsRow base e size (.slice A n c) n (l.flatMap f)) (hn : l.length = n) : IsRows f size w w.heap.size A n l := by
  obtain ⟨hl, ⟨hv, rfl⟩ | ⟨g, cap, cur, hv, hg, hh, hnc, hcm, hcs, htk⟩⟩ := h
  · exact ⟨hn, fun h => absurd h (by omega)⟩
  · injection hv with hA _ _
    subst hA
    refine ⟨hn, fun _ => ⟨g, 0, rfl, ?_, fun i x j u hx hu => ?_⟩⟩
    · rcases Nat.lt_or_ge g w.heap.size with h' | h'
      · exact h'
      · rw [Array.getElem?_eq_none (by omega)] at hh; cases hh
    · have h1 := flatMap_at f size hf l i x j u hx hu
      rw [← htk] at h1
      rw [cell_of_row w g (0 + (i * size + j)) cur e (0, 0) hh, Nat.zero_add, ← Array.getElem?_toList]
      rw [List.getElem?_take] at h1
      split at h1
      · exact h1
      · cases h1
theorem RX.has {w0 w : World} {r g : Nat} {rv : Value} {s : ByteArray} {a : Nat} {no : Bool} {acc : List VRow} (h : RX w0 w r g rv s a no acc) : ∃ A c, rv = .slice A acc.length c ∧ HasRows w w.heap.size A acc.length (acc.map VRow.row) := by
  obtain ⟨A, c, rfl⟩ := own_form h.own
  exact ⟨A, c, rfl, acc, rfl, own_rows2 (f := rowCell) (fun _ => rfl) h.own rfl, fun x hx => ⟨own_rows2 (f := tagCell) (fun _ => rfl) (h.all x hx).1 rfl, own_rows2 (f := fieldCell) (fun _ => rfl) (h.all x hx).2 rfl⟩⟩
/-- What Rows tells. -/
def RowsE (R : List MRow × Nat × Bool) (e : Ending) (w' : World) : Prop := ∃ A n c, e = .returned (.tuple #[.slice A n c, .bool (!R.2.2)]) ∧ HasRows w' w'.heap.size A n (if R.2.2 then [] else R.1)
theorem rowsE_no {R : List MRow} {a : Nat} {w' : World} : RowsE (R, a, true) (.returned (.tuple #[.slice none 0 0, .bool false])) w' := ⟨_, _, _, rfl, HasRows.nil_⟩
theorem rowsE_yes {R : List MRow} {a : Nat} {w' : World} {A : Option Addr} {n c : Nat} (h : HasRows w' w'.heap.size A n R) : RowsE (R, a, false) (.returned (.tuple #[.slice A n c, .bool true])) w' := ⟨_, _, _, rfl, h⟩
theorem LR.app {w0 w w' : World} {r g : Nat} {rv : Value} {s : ByteArray} {a : Nat} {no : Bool} {e : TypeId} {size n : Nat} {tv : Value} {xs : List Value} (h : LR w0 w r g rv s a no) (ho : w.ownsRow w0.heap.size e size tv n xs) (k : Aw tv.ownBlock.toList w w') (hr : r < w0.heap.size) (hg : g < w0.heap.size) : LR w0 w' r g rv s a no :=
  ⟨Blk.aw h.rd k (fun q => by have := (ho.lt _ (by simpa using q)).1; omega), h.sc.aw k (fun q => by have := (ho.lt _ (by simpa using q)).1; omega), h.rg, h.aw.own k (fun i hi => .inr (ho.lt i (by simpa using hi)).1)⟩
end
end Go.Proofs.YtcapbikelgcmmaaGreatDoor
