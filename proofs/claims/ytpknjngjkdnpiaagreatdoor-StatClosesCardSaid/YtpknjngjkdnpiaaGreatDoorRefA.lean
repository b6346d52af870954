/- The walks of the reference's scanner: its small methods. -/
import Derived.Test.YtpknjngjkdnpiaaGreatDoorScanE
import Derived.Test.YtpknjngjkdnpiaaGreatDoorUtfRef
import Derived.Test.YtpknjngjkdnpiaaGreatDoorQuiet2
import Derived.Deep.QuietTactic
import Derived.BigQuiet
namespace Go.Proofs.YtpknjngjkdnpiaaGreatDoor
set_option linter.unusedVariables false
set_option linter.unusedSimpArgs false
open Go.RowKit
/-- The reference's scanner's block: a text, how far it went, whether it can't go on. -/
def Sr (w : World) (g : Nat) (s : ByteArray) (a : Nat) (no : Bool) : Prop := Blk w g 70 #[.string s, .int .i64 (a : Int), .bool no]
section
variable {w w' : World} {g : Nat} {s : ByteArray} {a : Nat} {no : Bool}
theorem Sr.facts (h : Sr w g s a no) : (w.cell? ⟨g, 0, none⟩ = some (.string s) ∧ w.cell? ⟨g, 1, none⟩ = some (.int .i64 (a : Int)) ∧ w.cell? ⟨g, 2, none⟩ = some (.bool no)) ∧ w.frozen? ⟨g, 1, none⟩ = false ∧ w.frozen? ⟨g, 2, none⟩ = false :=
  ⟨⟨(Blk.cell h 0).trans rfl, (Blk.cell h 1).trans rfl, (Blk.cell h 2).trans rfl⟩, Blk.frozen h 1, Blk.frozen h 2⟩
theorem Sr.lt (h : Sr w g s a no) : g < w.heap.size := Blk.lt h
theorem Sr.at1 (h : Sr w g s a no) : Sr (w.setCell ⟨g, 1, none⟩ (.int .i64 ((a : Int) + 1))) g s (a + 1) no := by
  have := Blk.set_ h 1 (.int .i64 ((a : Int) + 1))
  exact this
theorem Sr.atN (h : Sr w g s a no) (n : Nat) : Sr (w.setCell ⟨g, 1, none⟩ (.int .i64 (n : Int))) g s n no := Blk.set_ h 1 (.int .i64 (n : Int))
theorem Sr.no1 (h : Sr w g s a no) (b : Bool) : Sr (w.setCell ⟨g, 2, none⟩ (.bool b)) g s a b := Blk.set_ h 2 (.bool b)
theorem Sr.drew (h : Sr w g s a no) : Sr w.drew g s a no := h
theorem Sr.drewN (h : Sr w g s a no) (n : Nat) : Sr (w.drewN n) g s a no := h
theorem Sr.aw {S : List Nat} (h : Sr w g s a no) (k : Aw S w w') (hg : g ∉ S) : Sr w' g s a no := Blk.aw h k hg
theorem Sr.below {B : Nat} (h : Sr w g s a no) (k : Below B w w') (hg : g < B) : Sr w' g s a no := Blk.below h k hg
theorem Sr.alloc (h : Sr w g s a no) (o : Obj) : Sr (w.alloc o) g s a no := Blk.alloc h o
theorem Sr.atOf (h : Sr w g s a no) : atOf w g = a := by
  unfold Go.Proofs.YtpknjngjkdnpiaaGreatDoor.atOf; rw [h.facts.1.2.1]; simp [intOf]
theorem Sr.noOf (h : Sr w g s a no) : noOf w g = no := by
  unfold Go.Proofs.YtpknjngjkdnpiaaGreatDoor.noOf; rw [h.facts.1.2.2]
theorem Sr.mOf (h : Sr w g s a no) : mOf w g s = 2 * (s.size - a) + if no then 0 else 1 := by
  unfold Go.Proofs.YtpknjngjkdnpiaaGreatDoor.mOf; rw [h.atOf, h.noOf]
end
theorem bt_end {l : List UInt8} {a : Nat} (h : l.length ≤ a) : bt l a = 0 := by
  unfold bt; rw [List.getD_eq_getElem?_getD, List.getElem?_eq_none h]; rfl
set_option maxHeartbeats 1600000 in
theorem next_any (g : Nat) (s : ByteArray) (a : Nat) (no : Bool) (w : World) (h : Sr w g s a no) (hs : s.size ≤ 4611686018427387904) (ha : a ≤ s.size) :
    Calls Tryz.prog 42 #[.pointer (some ⟨g, 0, none⟩)] w fun e w' => e = .returned (.int .u8 (bt s.data.toList a)) ∧ ∃ q, w' = w.drewN q := by
  obtain ⟨⟨c0, c1, c2⟩, f1, f2⟩ := h.facts
  by_cases hlt : a < s.size
  · have hd : decide ((s.size : Int) ≤ a) = false := decide_eq_false (by omega)
    have HC := Lib.hid (getElem_bt hlt)
    have hi0 : (0 : Int) ≤ a := by omega
    have hi1 : (a : Int) < s.size := by omega
    go_enter Tryz.func42, Tryz.ntmps42
    go_wp2_with fail
    go_quiet (fail)
    go_wp2_with fail
    go_quiet (fail)
    go_wp2_with fail
    go_ret
    refine ⟨?_, ⟨_, World.drewN_drewN _ _ _⟩⟩
    rw [← HC.out]; rfl
  · have hd : decide ((s.size : Int) ≤ a) = true := decide_eq_true (by omega)
    rw [bt_end (by simp; omega)]
    go_enter Tryz.func42, Tryz.ntmps42
    go_wp2_with fail
    go_quiet (fail)
    go_wp2_with fail
    go_ret
    exact ⟨rfl, ⟨_, rfl⟩⟩
def hasB (m : List UInt8) (c : Int) : Bool := m.any fun d => c == d.toNat
theorem hasB_take (m : List UInt8) (c : Int) (k : Nat) (h : k < m.length) : hasB (m.drop k) c = (bt m k == c || hasB (m.drop (k + 1)) c) := by
  unfold hasB
  rw [List.drop_eq_getElem_cons h, List.any_cons, ← bt_get h]
  congr 1
  apply bcl; rw [beq_iff_eq, beq_iff_eq]; exact ⟨Eq.symm, Eq.symm⟩
set_option maxHeartbeats 1600000 in
theorem has17_any (m : ByteArray) (c : Int) (w : World) (hm : m.size ≤ 4611686018427387904) :
    Calls Tryz.prog 71 #[.string m, .int .u8 c] w fun e w' => e = .returned (.bool (hasB m.data.toList c)) ∧ w' = w := by
  have HL : Hid (m.data.toList.length = m.size) := Lib.hid (by simp)
  obtain ⟨R, hR⟩ : ∃ R, hasB m.data.toList c = R := ⟨_, rfl⟩
  have H0 : Hid (hasB (m.data.toList.drop 0) c = R) := Lib.hid (by simpa using hR)
  rw [hR]
  clear hR
  go_enter Tryz.func71, Tryz.ntmps71
  go_wp2_with fail
  go_loopw [5] (fun i wr => wr = w ∧ ∃ k : Nat, k ≤ m.size ∧ i = .int .i64 k ∧ Hid (hasB (m.data.toList.drop k) c = R)) (fun i _ => m.size - (intOf i).toNat)
  case atStart => exact ⟨rfl, 0, by omega, rfl, H0⟩
  case round =>
    clear H0
    obtain ⟨rfl, k, hk, rfl, HK⟩ := hrel
    by_cases hlt : k < m.size
    · have hd : decide ((k : Int) < m.size) = true := decide_eq_true (by omega)
      have hi0 : (0 : Int) ≤ k := by omega
      have hi1 : (k : Int) < m.size := by omega
      have hst := hasB_take m.data.toList c k (by rw [HL.out]; exact hlt)
      rw [HK.out, ← getElem_bt hlt] at hst
      clear HK
      cases hq : (((m[k]'hlt).toNat : Int) == c)
      · rw [hq, Bool.false_or] at hst
        have HK := Lib.hid hst.symm
        clear hst
        go_wp2_with fail
        exact ⟨⟨trivial, k + 1, by omega, rfl, HK⟩, by (simp only [intOf]; omega)⟩
      · rw [hq, Bool.true_or] at hst
        subst hst
        go_wp2_with fail
        go_ret
        first | exact ⟨rfl, rfl⟩ | exact ⟨rfl, trivial⟩
    · have hd : decide ((k : Int) < m.size) = false := decide_eq_false (by omega)
      have hR : false = R := by
        rw [← HK.out, List.drop_of_length_le (by rw [HL.out]; omega)]; rfl
      subst hR
      go_wp2_with fail
      go_ret
      first | exact ⟨rfl, rfl⟩ | exact ⟨rfl, trivial⟩
set_option maxHeartbeats 1600000 in
theorem has20_any (m : ByteArray) (c : Int) (w : World) (hm : m.size ≤ 4611686018427387904) :
    Calls Tryz.prog 136 #[.string m, .int .u8 c] w fun e w' => e = .returned (.bool (hasB m.data.toList c)) ∧ w' = w := by
  have HL : Hid (m.data.toList.length = m.size) := Lib.hid (by simp)
  obtain ⟨R, hR⟩ : ∃ R, hasB m.data.toList c = R := ⟨_, rfl⟩
  have H0 : Hid (hasB (m.data.toList.drop 0) c = R) := Lib.hid (by simpa using hR)
  rw [hR]
  clear hR
  go_enter Tryz.func136, Tryz.ntmps136
  go_wp2_with fail
  go_loopw [5] (fun i wr => wr = w ∧ ∃ k : Nat, k ≤ m.size ∧ i = .int .i64 k ∧ Hid (hasB (m.data.toList.drop k) c = R)) (fun i _ => m.size - (intOf i).toNat)
  case atStart => exact ⟨rfl, 0, by omega, rfl, H0⟩
  case round =>
    clear H0
    obtain ⟨rfl, k, hk, rfl, HK⟩ := hrel
    by_cases hlt : k < m.size
    · have hd : decide ((k : Int) < m.size) = true := decide_eq_true (by omega)
      have hi0 : (0 : Int) ≤ k := by omega
      have hi1 : (k : Int) < m.size := by omega
      have hst := hasB_take m.data.toList c k (by rw [HL.out]; exact hlt)
      rw [HK.out, ← getElem_bt hlt] at hst
      clear HK
      cases hq : (((m[k]'hlt).toNat : Int) == c)
      · rw [hq, Bool.false_or] at hst
        have HK := Lib.hid hst.symm
        clear hst
        go_wp2_with fail
        exact ⟨⟨trivial, k + 1, by omega, rfl, HK⟩, by (simp only [intOf]; omega)⟩
      · rw [hq, Bool.true_or] at hst
        subst hst
        go_wp2_with fail
        go_ret
        first | exact ⟨rfl, rfl⟩ | exact ⟨rfl, trivial⟩
    · have hd : decide ((k : Int) < m.size) = false := decide_eq_false (by omega)
      have hR : false = R := by
        rw [← HK.out, List.drop_of_length_le (by rw [HL.out]; omega)]; rfl
      subst hR
      go_wp2_with fail
      go_ret
      first | exact ⟨rfl, rfl⟩ | exact ⟨rfl, trivial⟩
set_option maxHeartbeats 1600000 in
theorem inDig_any (c : Int) (w : World) : Calls Tryz.prog 70 #[.int .u8 c, .int .i64 0] w fun e w' => e = .returned (.bool (digB c)) ∧ w' = w := by
  go_enter Tryz.func70, Tryz.ntmps70
  go_wp2_with fail
  all_goals go_ret
  all_goals refine ⟨ret_bool (bcl ?_), rfl⟩
  all_goals (simp [digB] <;> omega)
end Go.Proofs.YtpknjngjkdnpiaaGreatDoor
