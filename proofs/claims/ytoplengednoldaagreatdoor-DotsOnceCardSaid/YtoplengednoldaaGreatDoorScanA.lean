/- The walks of package scan: its small methods. -/
import Derived.Test.YtoplengednoldaaGreatDoorAway
import Derived.Test.YtoplengednoldaaGreatDoorScanDef
import Derived.Deep.RegionHeld3
import Derived.Deep.QuietTactic
import Derived.BigQuiet
import Derived.IntWalk
namespace Go.Proofs.YtoplengednoldaaGreatDoor
set_option linter.unusedVariables false
set_option linter.unusedSimpArgs false
open Go.RowKit
/-- The scanner's block: a text, how far it went, whether it can't go on. -/
def Sc (w : World) (g : Nat) (s : ByteArray) (a : Nat) (no : Bool) : Prop := Blk w g 110 #[.string s, .int .i64 (a : Int), .bool no]
section
variable {w w' : World} {g : Nat} {s : ByteArray} {a : Nat} {no : Bool}
theorem Sc.facts (h : Sc w g s a no) : (w.cell? ⟨g, 0, none⟩ = some (.string s) ∧ w.cell? ⟨g, 1, none⟩ = some (.int .i64 (a : Int)) ∧ w.cell? ⟨g, 2, none⟩ = some (.bool no)) ∧ w.frozen? ⟨g, 1, none⟩ = false ∧ w.frozen? ⟨g, 2, none⟩ = false :=
  ⟨⟨(Blk.cell h 0).trans rfl, (Blk.cell h 1).trans rfl, (Blk.cell h 2).trans rfl⟩, Blk.frozen h 1, Blk.frozen h 2⟩
theorem Sc.lt (h : Sc w g s a no) : g < w.heap.size := Blk.lt h
theorem Sc.at1 (h : Sc w g s a no) : Sc (w.setCell ⟨g, 1, none⟩ (.int .i64 ((a : Int) + 1))) g s (a + 1) no := by
  have := Blk.set_ h 1 (.int .i64 ((a : Int) + 1))
  exact this
theorem Sc.atN (h : Sc w g s a no) (n : Nat) : Sc (w.setCell ⟨g, 1, none⟩ (.int .i64 (n : Int))) g s n no := Blk.set_ h 1 (.int .i64 (n : Int))
theorem Sc.no1 (h : Sc w g s a no) (b : Bool) : Sc (w.setCell ⟨g, 2, none⟩ (.bool b)) g s a b := Blk.set_ h 2 (.bool b)
theorem Sc.drew (h : Sc w g s a no) : Sc w.drew g s a no := h
theorem Sc.drewN (h : Sc w g s a no) (n : Nat) : Sc (w.drewN n) g s a no := h
theorem Sc.aw {S : List Nat} (h : Sc w g s a no) (k : Aw S w w') (hg : g ∉ S) : Sc w' g s a no := Blk.aw h k hg
theorem Sc.below {B : Nat} (h : Sc w g s a no) (k : Below B w w') (hg : g < B) : Sc w' g s a no := Blk.below h k hg
theorem Sc.alloc (h : Sc w g s a no) (o : Obj) : Sc (w.alloc o) g s a no := Blk.alloc h o
end
theorem new_any (s : ByteArray) (w : World) :
    Calls Tryz.prog 36 #[.string s] w fun e w' => e = .returned (.pointer (some ⟨w.heap.size, 0, none⟩)) ∧ Sc w' w.heap.size s 0 false ∧ Below w.heap.size w w' ∧ w.heap.size < w'.heap.size := by
  go_enter Tryz.func36, Tryz.ntmps36
  go_wp2_with fail
  go_ret
  exact ⟨rfl, Blk.new w _ _, (Below.refl _ _).alloc (Nat.le_refl _) _, by simp⟩
theorem at_any (g : Nat) (s : ByteArray) (a : Nat) (no : Bool) (w : World) (h : Sc w g s a no) :
    Calls Tryz.prog 23 #[.pointer (some ⟨g, 0, none⟩)] w fun e w' => e = .returned (.int .i64 (a : Int)) ∧ w = w' := by
  obtain ⟨⟨c0, c1, c2⟩, f1, f2⟩ := h.facts
  go_enter Tryz.func23, Tryz.ntmps23
  go_wp2_with fail
  go_ret
  exact ⟨rfl, rfl⟩
theorem stopped_any (g : Nat) (s : ByteArray) (a : Nat) (no : Bool) (w : World) (h : Sc w g s a no) :
    Calls Tryz.prog 21 #[.pointer (some ⟨g, 0, none⟩)] w fun e w' => e = .returned (.bool no) ∧ w = w' := by
  obtain ⟨⟨c0, c1, c2⟩, f1, f2⟩ := h.facts
  go_enter Tryz.func21, Tryz.ntmps21
  go_wp2_with fail
  go_ret
  exact ⟨rfl, rfl⟩
theorem end_any (g : Nat) (s : ByteArray) (a : Nat) (no : Bool) (w : World) (h : Sc w g s a no) :
    Calls Tryz.prog 37 #[.pointer (some ⟨g, 0, none⟩)] w fun e w' => e = .returned (.bool (a == s.size)) ∧ Sc w' g s a no ∧ Aw [] w w' := by
  obtain ⟨⟨c0, c1, c2⟩, f1, f2⟩ := h.facts
  have HB := Lib.hid (show ((a : Int) == (s.size : Int)) = (a == s.size) from bcl (by simp; omega))
  go_enter Tryz.func37, Tryz.ntmps37
  go_wp2_with fail
  go_quiet (fail)
  go_wp2_with fail
  go_ret
  exact ⟨ret_bool (by first | rfl | exact HB.out), h.drewN _, (Aw.refl _ _).drewN _⟩
/-- What Peek tells. -/
def pkC (l : List UInt8) (a : Nat) (no : Bool) : Int := if pkB l a no then bt l a else 0
theorem pkB_cases (s : ByteArray) (a : Nat) (no : Bool) (ha : a ≤ s.size) : (no = true ∧ pkB s.data.toList a no = false) ∨ (no = false ∧ a = s.size ∧ pkB s.data.toList a no = false) ∨ (no = false ∧ a < s.size ∧ pkB s.data.toList a no = true) := by
  have hl : s.data.toList.length = s.size := by simp
  cases no
  · right
    rcases Nat.lt_or_ge a s.size with h | h
    · exact .inr ⟨rfl, h, by simp [pkB, h]⟩
    · exact .inl ⟨rfl, by omega, by simp [pkB]; omega⟩
  · exact .inl ⟨rfl, rfl⟩
set_option maxHeartbeats 1000000 in
theorem peek_any (g : Nat) (s : ByteArray) (a : Nat) (no : Bool) (w : World) (h : Sc w g s a no) (ha : a ≤ s.size) (hs : s.size ≤ 4611686018427387904) :
    Calls Tryz.prog 189 #[.pointer (some ⟨g, 0, none⟩)] w fun e w' => e = .returned (.tuple #[.int .u8 (pkC s.data.toList a no), .bool (pkB s.data.toList a no)]) ∧ Sc w' g s a no ∧ Aw [] w w' := by
  obtain ⟨⟨c0, c1, c2⟩, f1, f2⟩ := h.facts
  rcases pkB_cases s a no ha with ⟨rfl, hp⟩ | ⟨rfl, rfl, hp⟩ | ⟨rfl, hlt, hp⟩
  · have hc : pkC s.data.toList a true = 0 := by unfold pkC; rw [hp]; rfl
    rw [hp, hc]
    clear hp hc
    go_enter Tryz.func189, Tryz.ntmps189
    go_wp2_with fail
    go_ret2
    exact ⟨rfl, h, Aw.refl _ _⟩
  · have hc : pkC s.data.toList s.size false = 0 := by unfold pkC; rw [hp]; rfl
    rw [hp, hc]
    clear hp hc
    go_enter Tryz.func189, Tryz.ntmps189
    go_wp2_with (go_at_call 37; refine (end_any g s s.size false _ h).mono ?_; rintro e w1 ⟨rfl, h1, hA⟩)
    go_ret2
    exact ⟨rfl, h1, hA⟩
  · have hc : pkC s.data.toList a false = bt s.data.toList a := by unfold pkC; rw [hp]; rfl
    have HC := Lib.hid (getElem_bt hlt)
    rw [hp, hc]
    clear hp hc
    have hq : (a == s.size) = false := by rw [beq_eq_false_iff_ne]; omega
    have hi0 : (0 : Int) ≤ a := by omega
    have hi1 : (a : Int) < s.size := by omega
    go_enter Tryz.func189, Tryz.ntmps189
    go_wp2_with (go_at_call 37; refine (end_any g s a false _ h).mono ?_; rintro e w1 ⟨rfl, h1, hA⟩; rw [hq]; obtain ⟨⟨d0, d1, d2⟩, _, _⟩ := h1.facts)
    go_quiet (fail)
    go_wp2_with fail
    go_ret2
    refine ⟨?_, h1.drewN _, hA.drewN _⟩
    rw [← HC.out]; rfl
theorem isB_def (l : List UInt8) (a : Nat) (no : Bool) (c : Int) : (pkB l a no = true ∧ isB l a no c = (pkC l a no == c)) ∨ (pkB l a no = false ∧ isB l a no c = false) := by
  cases h : pkB l a no
  · exact .inr ⟨rfl, by unfold isB; rw [h]; rfl⟩
  · exact .inl ⟨rfl, by unfold isB pkC; rw [h]; rfl⟩
theorem is_any (g : Nat) (s : ByteArray) (a : Nat) (no : Bool) (c : Int) (w : World) (h : Sc w g s a no) (ha : a ≤ s.size) (hs : s.size ≤ 4611686018427387904) :
    Calls Tryz.prog 137 #[.pointer (some ⟨g, 0, none⟩), .int .u8 c] w fun e w' => e = .returned (.bool (isB s.data.toList a no c)) ∧ Sc w' g s a no ∧ Aw [] w w' := by
  have kP := peek_any g s a no
  rcases isB_def s.data.toList a no c with ⟨h1, h2⟩ | ⟨h1, h2⟩
  all_goals
    rw [h2]
    rw [h1] at kP
    clear h1 h2
    generalize pkC s.data.toList a no = d at kP ⊢
    go_enter Tryz.func137, Tryz.ntmps137
    go_wp2_with (go_at_call 189; refine (kP _ h ha hs).mono ?_; rintro e w1 ⟨rfl, h1, hA⟩)
    go_ret
    exact ⟨rfl, h1, hA⟩
theorem takes_any (g : Nat) (s : ByteArray) (a : Nat) (no : Bool) (c : Int) (w : World) (h : Sc w g s a no) (ha : a ≤ s.size) (hs : s.size ≤ 4611686018427387904) :
    Calls Tryz.prog 75 #[.pointer (some ⟨g, 0, none⟩), .int .u8 c] w fun e w' => e = .returned (.bool (isB s.data.toList a no c)) ∧ Sc w' g s (takeA s.data.toList a no c) no ∧ Aw [g] w w' := by
  have kP := is_any g s a no c
  unfold takeA
  cases hq : isB s.data.toList a no c
  all_goals
    rw [hq] at kP
    go_enter Tryz.func75, Tryz.ntmps75
    go_wp2_with (go_at_call 137; refine (kP _ h ha hs).mono ?_; rintro e w1 ⟨rfl, h1, hA⟩; obtain ⟨⟨c0, c1, c2⟩, f1, f2⟩ := h1.facts)
    go_ret
    first
      | exact ⟨rfl, h1.at1, (hA.mono (by simp)).setCell (.inl (by simp)) _⟩
      | exact ⟨rfl, h1, hA.mono (by simp)⟩
end Go.Proofs.YtoplengednoldaaGreatDoor
