/- The walks of package scan: words, classes, numbers, scalars, signs behind backslashes. -/
import Derived.Test.YtoplengednoldaaGreatDoorScanA
import Derived.Test.YtoplengednoldaaGreatDoorUtf
import Derived.Test.YtoplengednoldaaGreatDoorShelfA
import Derived.WalkLawsBesides
namespace Go.Proofs.YtoplengednoldaaGreatDoor
set_option linter.unusedVariables false
set_option linter.unusedSimpArgs false
open Go.RowKit
/-- How far the scanner went, read from memory: a loop's measure. -/
def atOf (w : World) (g : Nat) : Nat := (intOf ((w.cell? ⟨g, 1, none⟩).getD (.bool false))).toNat
theorem Sc.atOf {w : World} {g : Nat} {s : ByteArray} {a : Nat} {no : Bool} (h : Sc w g s a no) : atOf w g = a := by
  unfold Go.Proofs.YtoplengednoldaaGreatDoor.atOf
  rw [h.facts.1.2.1]; simp [intOf]
theorem word_step (l : List UInt8) (c : UInt8) (cs : List UInt8) (b : Nat) : wordS l (c :: cs) b false = wordS l cs (takeA l b false c.toNat) (!isB l b false c.toNat) := by
  conv => lhs; unfold wordS
  unfold takeA
  cases isB l b false c.toNat
  · cases cs <;> simp [wordS]
  · simp
theorem wordS_no (l w : List UInt8) (a : Nat) : wordS l w a true = (a, true) := by cases w <;> simp [wordS]
set_option maxHeartbeats 1600000 in
theorem word_any (g : Nat) (s t : ByteArray) (a : Nat) (no : Bool) (b' : Nat) (n' : Bool) (w : World) (h : Sc w g s a no) (ha : a ≤ s.size) (hs : s.size ≤ 4611686018427387904) (ht : t.size ≤ 4611686018427387904) (hR : wordS s.data.toList t.data.toList a no = (b', n')) :
    Calls Tryz.prog 77 #[.pointer (some ⟨g, 0, none⟩), .string t] w fun e w' => e = .returned (.tuple #[]) ∧ Sc w' g s b' n' ∧ Aw [g] w w' := by
  have HL : Hid (s.data.toList.length = s.size) := Lib.hid (by simp)
  have HT : Hid (t.data.toList.length = t.size) := Lib.hid (by simp)
  have HR := Lib.hid hR
  clear hR
  go_enter Tryz.func77, Tryz.ntmps77
  go_wp2_with fail
  go_loopw [4] (fun i wr => ∃ (k b : Nat) (nb : Bool), k ≤ t.size ∧ b ≤ s.size ∧ i = .int .i64 k ∧ Sc wr g s b nb ∧ Aw [g] w wr ∧ Hid (wordS s.data.toList (t.data.toList.drop k) b nb = (b', n'))) (fun i _ => t.size - (intOf i).toNat)
  case atStart => exact ⟨0, a, no, by omega, ha, rfl, h, Aw.refl _ _, HR⟩
  case round =>
    obtain ⟨k, b, nb, hk, hb, rfl, hsc, hA, HG⟩ := hrel
    clear HR h
    obtain ⟨⟨c0, c1, c2⟩, f1, f2⟩ := hsc.facts
    by_cases hlt : k < t.size
    · have hd : decide ((k : Int) < t.size) = true := decide_eq_true (by omega)
      have hk0 : (0 : Int) ≤ k := by omega
      have hk1 : (k : Int) < t.size := by omega
      cases nb
      · have hlt' : k < t.data.toList.length := by rw [HT.out]; exact hlt
        have hG := HG.out
        rw [List.drop_eq_getElem_cons hlt', word_step] at hG
        have HC : Hid ((t.data.toList[k]).toNat = (t[k]).toNat) := Lib.hid rfl
        rw [HC.out] at hG
        have kT := takes_any g s b false ((t[k]).toNat : Int)
        have hle := takeA_le s.data.toList b false ((t[k]).toNat : Int) (by rw [HL.out]; exact hb)
        rw [HL.out] at hle
        generalize takeA s.data.toList b false ((t[k]).toNat : Int) = b1 at *
        generalize isB s.data.toList b false ((t[k]).toNat : Int) = q at *
        have HF := Lib.hid hG
        clear hG HG
        go_wp2_with (go_at_call 75; refine (kT _ hsc hb hs).mono ?_; rintro e w1 ⟨rfl, h1, hA1⟩; obtain ⟨⟨d0, d1, d2⟩, g1, g2⟩ := h1.facts)
        exact ⟨⟨k + 1, b1, !q, by omega, by omega, rfl, h1.no1 _, (hA.trans hA1).setCell (.inl (by simp)) _, HF⟩, by (simp only [intOf]; omega)⟩
      · have HF := HG.out
        rw [wordS_no] at HF
        obtain ⟨rfl, rfl⟩ : b = b' ∧ true = n' := by injection HF with e1 e2; exact ⟨e1, e2⟩
        clear HF HG
        go_wp2_with fail
        go_end0
        exact ⟨rfl, hsc, hA⟩
    · have hd : decide ((k : Int) < t.size) = false := decide_eq_false (by omega)
      have HF := HG.out
      rw [List.drop_of_length_le (by rw [HT.out]; omega)] at HF
      obtain ⟨rfl, rfl⟩ : b = b' ∧ nb = n' := by unfold wordS at HF; injection HF with e1 e2; exact ⟨e1, e2⟩
      clear HF HG
      go_wp2_with fail
      go_end0
      exact ⟨rfl, hsc, hA⟩
theorem sdigit_any (c : Int) (w : World) : Calls Tryz.prog 139 #[.int .u8 c] w fun e w' => e = .returned (.bool (digB c)) ∧ w = w' := by
  have HB : Hid (digB c = (decide (48 ≤ c) && decide (c ≤ 57))) := Lib.hid rfl
  go_enter Tryz.func139, Tryz.ntmps139
  go_wp2_with fail
  all_goals
    go_ret
    exact ⟨ret_bool (by rw [HB.out]; apply bcl; simp; try omega), rfl⟩
/-- How far bytes of a class go. -/
def whN (l : List UInt8) (p : Int → Bool) (a : Nat) (no : Bool) : Nat := if no then a else whA l p a
theorem whN_le (l : List UInt8) (p : Int → Bool) (a : Nat) (no : Bool) (h : a ≤ l.length) : a ≤ whN l p a no ∧ whN l p a no ≤ l.length := by
  unfold whN; split
  · exact ⟨Nat.le_refl _, h⟩
  · exact whA_le l p a h
theorem whN_yes {l : List UInt8} {p : Int → Bool} {a : Nat} {no : Bool} (h : pkB l a no = true) (k : p (pkC l a no) = true) : whN l p a no = whN l p (a + 1) no ∧ a < l.length := by
  have h1 : no = false ∧ a < l.length := by simpa [pkB] using h
  obtain ⟨rfl, h2⟩ := h1
  unfold pkC at k; rw [h, if_pos rfl] at k
  exact ⟨whA_yes h2 k, h2⟩
theorem whN_no {l : List UInt8} {p : Int → Bool} {a : Nat} {no : Bool} (h : pkB l a no = false ∨ p (pkC l a no) = false) (hl : a ≤ l.length) : whN l p a no = a := by
  unfold whN
  cases no
  · simp only [Bool.false_eq_true, if_false]
    by_cases h2 : a < l.length
    · have h1 : pkB l a false = true := by simp [pkB, h2]
      rcases h with h | h
      · rw [h] at h1; cases h1
      · unfold pkC at h; rw [h1, if_pos rfl] at h
        exact whA_no h2 h
    · exact whA_end (by omega)
  · rfl
set_option maxHeartbeats 1600000 in
theorem while_dig (g : Nat) (s : ByteArray) (a : Nat) (no : Bool) (b' : Nat) (w : World) (h : Sc w g s a no) (ha : a ≤ s.size) (hs : s.size ≤ 4611686018427387904) (hR : whN s.data.toList digB a no = b') :
    Calls Tryz.prog 186 #[.pointer (some ⟨g, 0, none⟩), .func (.func 139) #[] #[]] w fun e w' => e = .returned (.string (s.extract a b')) ∧ Sc w' g s b' no ∧ Aw [g] w w' := by
  have HL : Hid (s.data.toList.length = s.size) := Lib.hid (by simp)
  have HR := Lib.hid hR
  have ha0 : (0 : Int) ≤ a := by omega
  clear hR
  obtain ⟨⟨c0, c1, c2⟩, f1, f2⟩ := h.facts
  go_enter Tryz.func186, Tryz.ntmps186
  go_wp2_with fail
  go_loopw [6] (fun _ wr => ∃ b : Nat, a ≤ b ∧ b ≤ s.size ∧ Sc wr g s b no ∧ Aw [g] w wr ∧ Hid (whN s.data.toList digB b no = b')) (fun _ wr => s.size - atOf wr g)
  case atStart => exact ⟨a, Nat.le_refl _, ha, h, Aw.refl _ _, HR⟩
  case round =>
    obtain ⟨b, hab, hb, hsc, hA, HG⟩ := hrel
    clear HR h c0 c1 c2 f1 f2
    have kP := peek_any g s b no
    have hy := fun h1 h2 => whN_yes (l := s.data.toList) (p := digB) (a := b) (no := no) h1 h2
    have hn := fun h1 => whN_no (l := s.data.toList) (p := digB) (a := b) (no := no) h1 (by rw [HL.out]; exact hb)
    have hab' : (a : Int) ≤ b := by omega
    have hb' : (b : Int) ≤ s.size := by omega
    have hat := hsc.atOf
    cases hq : pkB s.data.toList b no
    · have HF := HG.out
      rw [hn (.inl hq)] at HF
      subst HF
      rw [hq] at kP
      clear hq hy hn HG hat
      generalize pkC s.data.toList b no = c at kP
      go_wp2_with (go_at_call 189; refine (kP _ hsc hb hs).mono ?_; rintro e w1 ⟨rfl, h1, hA1⟩; obtain ⟨⟨d0, d1, d2⟩, g1, g2⟩ := h1.facts)
      go_quiet (fail)
      go_wp2_with fail
      go_ret
      exact ⟨rfl, h1.drewN _, (hA.trans (hA1.mono (by simp))).drewN _⟩
    · rw [hq] at kP
      cases hp : digB (pkC s.data.toList b no)
      · have HF := HG.out
        rw [hn (.inr hp)] at HF
        subst HF
        clear hq hy hn HG hat
        generalize pkC s.data.toList b no = c at kP hp
        go_wp2_with (first
          | (go_at_call 189; refine (kP _ hsc hb hs).mono ?_; rintro e w1 ⟨rfl, h1, hA1⟩)
          | (go_at_call 139; refine (sdigit_any c _).mono ?_; rintro e w2 ⟨rfl, rfl⟩; rw [hp]; obtain ⟨⟨d0, d1, d2⟩, g1, g2⟩ := h1.facts))
        go_quiet (fail)
        go_wp2_with fail
        go_ret
        exact ⟨rfl, h1.drewN _, (hA.trans (hA1.mono (by simp))).drewN _⟩
      · obtain ⟨e1, e2⟩ := hy hq hp
        have HF := Lib.hid (e1.symm.trans HG.out)
        rw [HL.out] at e2
        clear hq hy hn HG e1
        generalize pkC s.data.toList b no = c at kP hp
        go_wp2_with (first
          | (go_at_call 189; refine (kP _ hsc hb hs).mono ?_; rintro e w1 ⟨rfl, h1, hA1⟩)
          | (go_at_call 139; refine (sdigit_any c _).mono ?_; rintro e w2 ⟨rfl, rfl⟩; rw [hp]; obtain ⟨⟨d0, d1, d2⟩, g1, g2⟩ := h1.facts))
        exact ⟨⟨b + 1, by omega, by omega, h1.at1, (hA.trans (hA1.mono (by simp))).setCell (.inl (by simp)) _, HF⟩, by (rw [h1.at1.atOf, hat]; omega)⟩
set_option maxHeartbeats 1600000 in
theorem some_dig (g : Nat) (s : ByteArray) (a : Nat) (no : Bool) (b' : Nat) (n' : Bool) (w : World) (h : Sc w g s a no) (ha : a ≤ s.size) (hs : s.size ≤ 4611686018427387904) (hR : someS s.data.toList digB a no = (b', n')) :
    Calls Tryz.prog 135 #[.pointer (some ⟨g, 0, none⟩), .func (.func 139) #[] #[]] w fun e w' => e = .returned (.string (s.extract a b')) ∧ Sc w' g s b' n' ∧ Aw [g] w w' := by
  have hL : s.data.toList.length = s.size := by simp
  have hw : whN s.data.toList digB a no = b' := by
    unfold whN; unfold someS at hR
    cases no
    · simp only [Bool.false_eq_true, if_false] at hR ⊢; injection hR
    · simp only [if_true] at hR ⊢; injection hR
  have kW := while_dig g s a no b'
  have hle := whN_le s.data.toList digB a no (by rw [hL]; exact ha)
  rw [hw, hL] at hle
  cases no
  · have hn : (b' == a) = n' := by
      unfold someS at hR
      simp only [Bool.false_eq_true, if_false] at hR
      injection hR with e1 e2
      rw [← e2, e1]
    have h3 : (s.extract a b').data.toList.length = b' - a := by simp; omega
    have h4 : ((s.extract a b').toList == []) = n' := by
      rw [ByteArray.toList_eq, ← hn]
      apply bcl
      rw [beq_iff_eq, beq_iff_eq, ← List.length_eq_zero_iff, h3]
      omega
    have h5 : (s.extract a b').toList.isEmpty = n' := by
      rw [← h4]
      cases (s.extract a b').toList <;> rfl
    clear hR hn h3 hL
    generalize s.extract a b' = t at h4 h5 kW ⊢
    go_enter Tryz.func135, Tryz.ntmps135
    go_wp2_with (go_at_call 186; refine (kW _ h ha hs hw).mono ?_; rintro e w1 ⟨rfl, h1, hA1⟩; obtain ⟨⟨d0, d1, d2⟩, g1, g2⟩ := h1.facts)
    go_ret
    exact ⟨rfl, h1.no1 _, hA1.setCell (.inl (by simp)) _⟩
  · obtain rfl : true = n' := by unfold someS at hR; simp only [if_true] at hR; injection hR
    clear hR hL
    generalize s.extract a b' = t at kW ⊢
    go_enter Tryz.func135, Tryz.ntmps135
    go_wp2_with (go_at_call 186; refine (kW _ h ha hs hw).mono ?_; rintro e w1 ⟨rfl, h1, hA1⟩; obtain ⟨⟨d0, d1, d2⟩, g1, g2⟩ := h1.facts)
    go_ret
    exact ⟨rfl, h1.no1 true, hA1.setCell (.inl (by simp)) _⟩
end Go.Proofs.YtoplengednoldaaGreatDoor
