/- The walks of functions that tell whether a byte is of a class, and of While, Some by them. -/
import Derived.Test.YtoplengednoldaaGreatDoorScanE
import Derived.Test.YtoplengednoldaaGreatDoorMgPl8
namespace Go.Proofs.YtoplengednoldaaGreatDoor
set_option linter.unusedVariables false
set_option linter.unusedSimpArgs false
open Go.RowKit
theorem sletter_any (c : Int) (w : World) : Calls Tryz.prog 187 #[.int .u8 c] w fun e w' => e = .returned (.bool (letB c)) ∧ w' = w := by
  have HB : Hid (letB c = (decide (97 ≤ c) && decide (c ≤ 122) || decide (65 ≤ c) && decide (c ≤ 90))) := Lib.hid rfl
  go_enter Tryz.func187, Tryz.ntmps187
  go_wp2_with fail
  all_goals
    go_ret
    exact ⟨ret_bool (by rw [HB.out]; apply bcl; simp; try omega), rfl⟩
theorem sdigit_any' (c : Int) (w : World) : Calls Tryz.prog 139 #[.int .u8 c] w fun e w' => e = .returned (.bool (digB c)) ∧ w' = w := (sdigit_any c w).mono fun e w' ⟨h1, h2⟩ => ⟨h1, h2.symm⟩
theorem sdigitC (c : Int) (w : World) (_h0 : 0 ≤ c) (_h1 : c ≤ 255) : Calls Tryz.prog 139 #[.int .u8 c] w fun e w' => e = .returned (.bool (digB c)) ∧ Aw [] w w' := (sdigit_any c w).mono fun e w' ⟨h1, h2⟩ => ⟨h1, by rw [← h2]; exact Aw.refl _ _⟩
theorem idxC (m : ByteArray) (c : Int) (w : World) (h0 : 0 ≤ c) (h1 : c ≤ 255) : Calls Tryz.prog 188 #[.string m, .int .u8 c] w fun e w' => (∃ D, e = .returned (.int .i64 D) ∧ decide (0 ≤ D) = m.data.toList.any fun d => c == d.toNat) ∧ w' = w :=
  (Tryz.strings_IndexByte m c w).mono fun e w' ⟨h2, h3⟩ => ⟨⟨_, h2, (idx_any m.data.toList c h0 h1).symm⟩, h3⟩
set_option maxHeartbeats 1600000 in
theorem dtNodeC (c : Int) (w : World) (h0 : 0 ≤ c) (h1 : c ≤ 255) : Calls Tryz.prog 136 #[.int .u8 c] w fun e w' => e = .returned (.bool (dtNode c)) ∧ Aw [] w w' := by
  have kL := fun W => sletter_any c W
  have kD := fun W => sdigit_any' c W
  have kI := fun W => idxC ⟨#[95, 45, 58]⟩ c W h0 h1
  have hP : dtNode c = (letB c || (digB c || (c == 95 || (c == 45 || c == 58)))) := rfl
  have hI : ((⟨#[95, 45, 58]⟩ : ByteArray).data.toList.any fun d => c == d.toNat) = (c == 95 || (c == 45 || c == 58)) := by simp
  rw [hP]
  rw [hI] at kI
  clear hP hI
  generalize letB c = L at kL ⊢
  generalize digB c = D at kD ⊢
  generalize (c == 95 || (c == 45 || c == 58)) = E at kI ⊢
  cases L
  · cases D
    · go_enter Tryz.func136, Tryz.ntmps136
      go_wp2_with (first
        | (go_at_call 187; refine (kL _).mono ?_; rintro e w1 ⟨rfl, hw1⟩; rw [hw1]; clear hw1 w1)
        | (go_at_call 139; refine (kD _).mono ?_; rintro e w1 ⟨rfl, hw1⟩; rw [hw1]; clear hw1 w1)
        | (go_at_call 188; refine (kI _).mono ?_; rintro e w1 ⟨⟨Q, rfl, hQ⟩, hw1⟩; rw [hw1]; clear hw1 w1))
      go_ret
      exact ⟨ret_bool (by simp [hQ]), Aw.refl _ _⟩
    · go_enter Tryz.func136, Tryz.ntmps136
      go_wp2_with (first
        | (go_at_call 187; refine (kL _).mono ?_; rintro e w1 ⟨rfl, hw1⟩; rw [hw1]; clear hw1 w1)
        | (go_at_call 139; refine (kD _).mono ?_; rintro e w1 ⟨rfl, hw1⟩; rw [hw1]; clear hw1 w1))
      go_ret
      exact ⟨rfl, Aw.refl _ _⟩
  · go_enter Tryz.func136, Tryz.ntmps136
    go_wp2_with (go_at_call 187; refine (kL _).mono ?_; rintro e w1 ⟨rfl, hw1⟩; rw [hw1]; clear hw1 w1)
    go_ret
    exact ⟨rfl, Aw.refl _ _⟩
theorem dtInkC (c : Int) (w : World) (h0 : 0 ≤ c) (h1 : c ≤ 255) : Calls Tryz.prog 138 #[.int .u8 c] w fun e w' => e = .returned (.bool (dtInk c)) ∧ Aw [] w w' := by
  have HB : Hid (dtInk c = (decide (32 < c) && (decide (c < 127) && !(c == 59)))) := Lib.hid rfl
  go_enter Tryz.func138, Tryz.ntmps138
  go_wp2_with fail
  all_goals
    go_ret
    exact ⟨ret_bool (by rw [HB.out]; apply bcl; simp; try omega), Aw.refl _ _⟩
set_option maxHeartbeats 1600000 in
theorem tnodeE (c : Int) (w : World) (h0 : 0 ≤ c) (h1 : c ≤ 255) : Calls Tryz.prog 229 #[.int .u8 c] w fun e w' => e = .returned (.bool (dtNode c)) ∧ w' = w := by
  have kI := fun W => idxC ⟨#[95, 45, 58]⟩ c W h0 h1
  have hI : ((⟨#[95, 45, 58]⟩ : ByteArray).data.toList.any fun d => c == d.toNat) = (c == 95 || (c == 45 || c == 58)) := by simp
  rw [hI] at kI
  clear hI
  have HB : Hid (dtNode c = ((decide (97 ≤ c) && decide (c ≤ 122) || decide (65 ≤ c) && decide (c ≤ 90)) || ((decide (48 ≤ c) && decide (c ≤ 57)) || (c == 95 || (c == 45 || c == 58))))) := Lib.hid rfl
  go_enter Tryz.func229, Tryz.ntmps229
  go_wp2_with (go_at_call 188; refine (kI _).mono ?_; rintro e w1 ⟨⟨Q, rfl, hQ⟩, hw1⟩; rw [hw1]; clear hw1 w1)
  all_goals
    go_ret
    exact ⟨ret_bool (by rw [HB.out]; apply bcl; first | (rw [hQ]; simp; omega) | (simp; omega)), rfl⟩
theorem tinkE (c : Int) (w : World) (_h0 : 0 ≤ c) (_h1 : c ≤ 255) : Calls Tryz.prog 234 #[.int .u8 c] w fun e w' => e = .returned (.bool (tmInk c)) ∧ w' = w := by
  have HB : Hid (tmInk c = (decide (32 < c) && (decide (c < 127) && (!(c == 59) && !(c == 44))))) := Lib.hid rfl
  go_enter Tryz.func234, Tryz.ntmps234
  go_wp2_with fail
  all_goals
    go_ret
    exact ⟨ret_bool (by rw [HB.out]; apply bcl; simp; try omega), rfl⟩
theorem tnodeC (c : Int) (w : World) (h0 : 0 ≤ c) (h1 : c ≤ 255) : Calls Tryz.prog 229 #[.int .u8 c] w fun e w' => e = .returned (.bool (dtNode c)) ∧ Aw [] w w' :=
  (tnodeE c w h0 h1).mono fun e w' ⟨h2, h3⟩ => ⟨h2, by rw [h3]; exact Aw.refl _ _⟩
theorem tinkC (c : Int) (w : World) (h0 : 0 ≤ c) (h1 : c ≤ 255) : Calls Tryz.prog 234 #[.int .u8 c] w fun e w' => e = .returned (.bool (tmInk c)) ∧ Aw [] w w' :=
  (tinkE c w h0 h1).mono fun e w' ⟨h2, h3⟩ => ⟨h2, by rw [h3]; exact Aw.refl _ _⟩
theorem pkC_bd (l : List UInt8) (a : Nat) (no : Bool) : 0 ≤ pkC l a no ∧ pkC l a no ≤ 255 := by
  unfold pkC
  split
  · exact ⟨bt_nonneg l a, bt_le l a⟩
  · omega
set_option maxHeartbeats 1600000 in
theorem while_dtnode (g : Nat) (s : ByteArray) (a : Nat) (no : Bool) (b' : Nat) (w : World) (h : Sc w g s a no) (ha : a ≤ s.size) (hs : s.size ≤ 4611686018427387904) (hR : whN s.data.toList dtNode a no = b') :
    Calls Tryz.prog 186 #[.pointer (some ⟨g, 0, none⟩), .func (.func 136) #[] #[]] w fun e w' => e = .returned (.string (s.extract a b')) ∧ Sc w' g s b' no ∧ Aw [g] w w' := by
  have HL : Hid (s.data.toList.length = s.size) := Lib.hid (by simp)
  have HR := Lib.hid hR
  have ha0 : (0 : Int) ≤ a := by omega
  clear hR
  obtain ⟨⟨c0, c1, c2⟩, f1, f2⟩ := h.facts
  go_enter Tryz.func186, Tryz.ntmps186
  go_wp2_with fail
  go_loopw [6] (fun _ wr => ∃ b : Nat, a ≤ b ∧ b ≤ s.size ∧ Sc wr g s b no ∧ Aw [g] w wr ∧ Hid (whN s.data.toList dtNode b no = b')) (fun _ wr => s.size - atOf wr g)
  case atStart => exact ⟨a, Nat.le_refl _, ha, h, Aw.refl _ _, HR⟩
  case round =>
    obtain ⟨b, hab, hb, hsc, hA, HG⟩ := hrel
    clear HR h c0 c1 c2 f1 f2
    have kP := peek_any g s b no
    have hy := fun h1 h2 => whN_yes (l := s.data.toList) (p := dtNode) (a := b) (no := no) h1 h2
    have hn := fun h1 => whN_no (l := s.data.toList) (p := dtNode) (a := b) (no := no) h1 (by rw [HL.out]; exact hb)
    have hab' : (a : Int) ≤ b := by omega
    have hb' : (b : Int) ≤ s.size := by omega
    have hat := hsc.atOf
    obtain ⟨hc0, hc1⟩ := pkC_bd s.data.toList b no
    cases hq : pkB s.data.toList b no
    · have HF := HG.out
      rw [hn (.inl hq)] at HF
      subst HF
      rw [hq] at kP
      clear hq hy hn HG hat hc0 hc1
      generalize pkC s.data.toList b no = c at kP
      go_wp2_with (go_at_call 189; refine (kP _ hsc hb hs).mono ?_; rintro e w1 ⟨rfl, h1, hA1⟩; obtain ⟨⟨d0, d1, d2⟩, g1, g2⟩ := h1.facts)
      go_quiet (fail)
      go_wp2_with fail
      go_ret
      exact ⟨rfl, h1.drewN _, (hA.trans (hA1.mono (by simp))).drewN _⟩
    · rw [hq] at kP
      have kK := fun W => dtNodeC (pkC s.data.toList b no) W hc0 hc1
      cases hp : dtNode (pkC s.data.toList b no)
      · have HF := HG.out
        rw [hn (.inr hp)] at HF
        subst HF
        rw [hp] at kK
        clear hq hy hn HG hat hp hc0 hc1
        generalize pkC s.data.toList b no = c at kP kK
        go_wp2_with (first
          | (go_at_call 189; refine (kP _ hsc hb hs).mono ?_; rintro e w1 ⟨rfl, h1, hA1⟩)
          | (go_at_call 136; refine (kK _).mono ?_; rintro e w2 ⟨rfl, hA2⟩; have h2 := h1.aw hA2 (by simp); obtain ⟨⟨d0, d1, d2⟩, g1, g2⟩ := h2.facts))
        go_quiet (fail)
        go_wp2_with fail
        go_ret
        exact ⟨rfl, h2.drewN _, ((hA.trans (hA1.mono (by simp))).trans (hA2.mono (by simp))).drewN _⟩
      · obtain ⟨e1, e2⟩ := hy hq hp
        have HF := Lib.hid (e1.symm.trans HG.out)
        rw [HL.out] at e2
        rw [hp] at kK
        clear hq hy hn HG e1 hp hc0 hc1
        generalize pkC s.data.toList b no = c at kP kK
        go_wp2_with (first
          | (go_at_call 189; refine (kP _ hsc hb hs).mono ?_; rintro e w1 ⟨rfl, h1, hA1⟩)
          | (go_at_call 136; refine (kK _).mono ?_; rintro e w2 ⟨rfl, hA2⟩; have h2 := h1.aw hA2 (by simp); obtain ⟨⟨d0, d1, d2⟩, g1, g2⟩ := h2.facts))
        exact ⟨⟨b + 1, by omega, by omega, h2.at1, ((hA.trans (hA1.mono (by simp))).trans (hA2.mono (by simp))).setCell (.inl (by simp)) _, HF⟩, by (rw [h2.at1.atOf, hat]; omega)⟩
set_option maxHeartbeats 1600000 in
theorem some_dtnode (g : Nat) (s : ByteArray) (a : Nat) (no : Bool) (b' : Nat) (n' : Bool) (w : World) (h : Sc w g s a no) (ha : a ≤ s.size) (hs : s.size ≤ 4611686018427387904) (hR : someS s.data.toList dtNode a no = (b', n')) :
    Calls Tryz.prog 135 #[.pointer (some ⟨g, 0, none⟩), .func (.func 136) #[] #[]] w fun e w' => e = .returned (.string (s.extract a b')) ∧ Sc w' g s b' n' ∧ Aw [g] w w' := by
  have hL : s.data.toList.length = s.size := by simp
  have hw : whN s.data.toList dtNode a no = b' := by
    unfold whN; unfold someS at hR
    cases no
    · simp only [Bool.false_eq_true, if_false] at hR ⊢; injection hR
    · simp only [if_true] at hR ⊢; injection hR
  have kW := while_dtnode g s a no b'
  have hle := whN_le s.data.toList dtNode a no (by rw [hL]; exact ha)
  rw [hw, hL] at hle
  cases no
  · have hn : (b' == a) = n' := by
      unfold someS at hR
      simp only [Bool.false_eq_true, if_false] at hR
      injection hR with e1 e2
      rw [← e2, e1]
    have h3 : (s.extract a b').data.toList.length = b' - a := by simp; omega
    have h4 : ((s.extract a b').toList == []) = n' := by
      rw [ByteArray.toList_eq, ← hn]
      apply bcl
      rw [beq_iff_eq, beq_iff_eq, ← List.length_eq_zero_iff, h3]
      omega
    have h5 : (s.extract a b').toList.isEmpty = n' := by
      rw [← h4]
      cases (s.extract a b').toList <;> rfl
    clear hR hn h3 hL
    generalize s.extract a b' = t at h4 h5 kW ⊢
    go_enter Tryz.func135, Tryz.ntmps135
    go_wp2_with (go_at_call 186; refine (kW _ h ha hs hw).mono ?_; rintro e w1 ⟨rfl, h1, hA1⟩; obtain ⟨⟨d0, d1, d2⟩, g1, g2⟩ := h1.facts)
    go_ret
    exact ⟨rfl, h1.no1 _, hA1.setCell (.inl (by simp)) _⟩
  · obtain rfl : true = n' := by unfold someS at hR; simp only [if_true] at hR; injection hR
    clear hR hL
    generalize s.extract a b' = t at kW ⊢
    go_enter Tryz.func135, Tryz.ntmps135
    go_wp2_with (go_at_call 186; refine (kW _ h ha hs hw).mono ?_; rintro e w1 ⟨rfl, h1, hA1⟩; obtain ⟨⟨d0, d1, d2⟩, g1, g2⟩ := h1.facts)
    go_ret
    exact ⟨rfl, h1.no1 true, hA1.setCell (.inl (by simp)) _⟩
set_option maxHeartbeats 1600000 in
theorem while_dtink (g : Nat) (s : ByteArray) (a : Nat) (no : Bool) (b' : Nat) (w : World) (h : Sc w g s a no) (ha : a ≤ s.size) (hs : s.size ≤ 4611686018427387904) (hR : whN s.data.toList dtInk a no = b') :
    Calls Tryz.prog 186 #[.pointer (some ⟨g, 0, none⟩), .func (.func 138) #[] #[]] w fun e w' => e = .returned (.string (s.extract a b')) ∧ Sc w' g s b' no ∧ Aw [g] w w' := by
  have HL : Hid (s.data.toList.length = s.size) := Lib.hid (by simp)
  have HR := Lib.hid hR
  have ha0 : (0 : Int) ≤ a := by omega
  clear hR
  obtain ⟨⟨c0, c1, c2⟩, f1, f2⟩ := h.facts
  go_enter Tryz.func186, Tryz.ntmps186
  go_wp2_with fail
  go_loopw [6] (fun _ wr => ∃ b : Nat, a ≤ b ∧ b ≤ s.size ∧ Sc wr g s b no ∧ Aw [g] w wr ∧ Hid (whN s.data.toList dtInk b no = b')) (fun _ wr => s.size - atOf wr g)
  case atStart => exact ⟨a, Nat.le_refl _, ha, h, Aw.refl _ _, HR⟩
  case round =>
    obtain ⟨b, hab, hb, hsc, hA, HG⟩ := hrel
    clear HR h c0 c1 c2 f1 f2
    have kP := peek_any g s b no
    have hy := fun h1 h2 => whN_yes (l := s.data.toList) (p := dtInk) (a := b) (no := no) h1 h2
    have hn := fun h1 => whN_no (l := s.data.toList) (p := dtInk) (a := b) (no := no) h1 (by rw [HL.out]; exact hb)
    have hab' : (a : Int) ≤ b := by omega
    have hb' : (b : Int) ≤ s.size := by omega
    have hat := hsc.atOf
    obtain ⟨hc0, hc1⟩ := pkC_bd s.data.toList b no
    cases hq : pkB s.data.toList b no
    · have HF := HG.out
      rw [hn (.inl hq)] at HF
      subst HF
      rw [hq] at kP
      clear hq hy hn HG hat hc0 hc1
      generalize pkC s.data.toList b no = c at kP
      go_wp2_with (go_at_call 189; refine (kP _ hsc hb hs).mono ?_; rintro e w1 ⟨rfl, h1, hA1⟩; obtain ⟨⟨d0, d1, d2⟩, g1, g2⟩ := h1.facts)
      go_quiet (fail)
      go_wp2_with fail
      go_ret
      exact ⟨rfl, h1.drewN _, (hA.trans (hA1.mono (by simp))).drewN _⟩
    · rw [hq] at kP
      have kK := fun W => dtInkC (pkC s.data.toList b no) W hc0 hc1
      cases hp : dtInk (pkC s.data.toList b no)
      · have HF := HG.out
        rw [hn (.inr hp)] at HF
        subst HF
        rw [hp] at kK
        clear hq hy hn HG hat hp hc0 hc1
        generalize pkC s.data.toList b no = c at kP kK
        go_wp2_with (first
          | (go_at_call 189; refine (kP _ hsc hb hs).mono ?_; rintro e w1 ⟨rfl, h1, hA1⟩)
          | (go_at_call 138; refine (kK _).mono ?_; rintro e w2 ⟨rfl, hA2⟩; have h2 := h1.aw hA2 (by simp); obtain ⟨⟨d0, d1, d2⟩, g1, g2⟩ := h2.facts))
        go_quiet (fail)
        go_wp2_with fail
        go_ret
        exact ⟨rfl, h2.drewN _, ((hA.trans (hA1.mono (by simp))).trans (hA2.mono (by simp))).drewN _⟩
      · obtain ⟨e1, e2⟩ := hy hq hp
        have HF := Lib.hid (e1.symm.trans HG.out)
        rw [HL.out] at e2
        rw [hp] at kK
        clear hq hy hn HG e1 hp hc0 hc1
        generalize pkC s.data.toList b no = c at kP kK
        go_wp2_with (first
          | (go_at_call 189; refine (kP _ hsc hb hs).mono ?_; rintro e w1 ⟨rfl, h1, hA1⟩)
          | (go_at_call 138; refine (kK _).mono ?_; rintro e w2 ⟨rfl, hA2⟩; have h2 := h1.aw hA2 (by simp); obtain ⟨⟨d0, d1, d2⟩, g1, g2⟩ := h2.facts))
        exact ⟨⟨b + 1, by omega, by omega, h2.at1, ((hA.trans (hA1.mono (by simp))).trans (hA2.mono (by simp))).setCell (.inl (by simp)) _, HF⟩, by (rw [h2.at1.atOf, hat]; omega)⟩
set_option maxHeartbeats 1600000 in
theorem some_dtink (g : Nat) (s : ByteArray) (a : Nat) (no : Bool) (b' : Nat) (n' : Bool) (w : World) (h : Sc w g s a no) (ha : a ≤ s.size) (hs : s.size ≤ 4611686018427387904) (hR : someS s.data.toList dtInk a no = (b', n')) :
    Calls Tryz.prog 135 #[.pointer (some ⟨g, 0, none⟩), .func (.func 138) #[] #[]] w fun e w' => e = .returned (.string (s.extract a b')) ∧ Sc w' g s b' n' ∧ Aw [g] w w' := by
  have hL : s.data.toList.length = s.size := by simp
  have hw : whN s.data.toList dtInk a no = b' := by
    unfold whN; unfold someS at hR
    cases no
    · simp only [Bool.false_eq_true, if_false] at hR ⊢; injection hR
    · simp only [if_true] at hR ⊢; injection hR
  have kW := while_dtink g s a no b'
  have hle := whN_le s.data.toList dtInk a no (by rw [hL]; exact ha)
  rw [hw, hL] at hle
  cases no
  · have hn : (b' == a) = n' := by
      unfold someS at hR
      simp only [Bool.false_eq_true, if_false] at hR
      injection hR with e1 e2
      rw [← e2, e1]
    have h3 : (s.extract a b').data.toList.length = b' - a := by simp; omega
    have h4 : ((s.extract a b').toList == []) = n' := by
      rw [ByteArray.toList_eq, ← hn]
      apply bcl
      rw [beq_iff_eq, beq_iff_eq, ← List.length_eq_zero_iff, h3]
      omega
    have h5 : (s.extract a b').toList.isEmpty = n' := by
      rw [← h4]
      cases (s.extract a b').toList <;> rfl
    clear hR hn h3 hL
    generalize s.extract a b' = t at h4 h5 kW ⊢
    go_enter Tryz.func135, Tryz.ntmps135
    go_wp2_with (go_at_call 186; refine (kW _ h ha hs hw).mono ?_; rintro e w1 ⟨rfl, h1, hA1⟩; obtain ⟨⟨d0, d1, d2⟩, g1, g2⟩ := h1.facts)
    go_ret
    exact ⟨rfl, h1.no1 _, hA1.setCell (.inl (by simp)) _⟩
  · obtain rfl : true = n' := by unfold someS at hR; simp only [if_true] at hR; injection hR
    clear hR hL
    generalize s.extract a b' = t at kW ⊢
    go_enter Tryz.func135, Tryz.ntmps135
    go_wp2_with (go_at_call 186; refine (kW _ h ha hs hw).mono ?_; rintro e w1 ⟨rfl, h1, hA1⟩; obtain ⟨⟨d0, d1, d2⟩, g1, g2⟩ := h1.facts)
    go_ret
    exact ⟨rfl, h1.no1 true, hA1.setCell (.inl (by simp)) _⟩
set_option maxHeartbeats 1600000 in
theorem while_tnode (g : Nat) (s : ByteArray) (a : Nat) (no : Bool) (b' : Nat) (w : World) (h : Sc w g s a no) (ha : a ≤ s.size) (hs : s.size ≤ 4611686018427387904) (hR : whN s.data.toList dtNode a no = b') :
    Calls Tryz.prog 186 #[.pointer (some ⟨g, 0, none⟩), .func (.func 229) #[] #[]] w fun e w' => e = .returned (.string (s.extract a b')) ∧ Sc w' g s b' no ∧ Aw [g] w w' := by
  have HL : Hid (s.data.toList.length = s.size) := Lib.hid (by simp)
  have HR := Lib.hid hR
  have ha0 : (0 : Int) ≤ a := by omega
  clear hR
  obtain ⟨⟨c0, c1, c2⟩, f1, f2⟩ := h.facts
  go_enter Tryz.func186, Tryz.ntmps186
  go_wp2_with fail
  go_loopw [6] (fun _ wr => ∃ b : Nat, a ≤ b ∧ b ≤ s.size ∧ Sc wr g s b no ∧ Aw [g] w wr ∧ Hid (whN s.data.toList dtNode b no = b')) (fun _ wr => s.size - atOf wr g)
  case atStart => exact ⟨a, Nat.le_refl _, ha, h, Aw.refl _ _, HR⟩
  case round =>
    obtain ⟨b, hab, hb, hsc, hA, HG⟩ := hrel
    clear HR h c0 c1 c2 f1 f2
    have kP := peek_any g s b no
    have hy := fun h1 h2 => whN_yes (l := s.data.toList) (p := dtNode) (a := b) (no := no) h1 h2
    have hn := fun h1 => whN_no (l := s.data.toList) (p := dtNode) (a := b) (no := no) h1 (by rw [HL.out]; exact hb)
    have hab' : (a : Int) ≤ b := by omega
    have hb' : (b : Int) ≤ s.size := by omega
    have hat := hsc.atOf
    obtain ⟨hc0, hc1⟩ := pkC_bd s.data.toList b no
    cases hq : pkB s.data.toList b no
    · have HF := HG.out
      rw [hn (.inl hq)] at HF
      subst HF
      rw [hq] at kP
      clear hq hy hn HG hat hc0 hc1
      generalize pkC s.data.toList b no = c at kP
      go_wp2_with (go_at_call 189; refine (kP _ hsc hb hs).mono ?_; rintro e w1 ⟨rfl, h1, hA1⟩; obtain ⟨⟨d0, d1, d2⟩, g1, g2⟩ := h1.facts)
      go_quiet (fail)
      go_wp2_with fail
      go_ret
      exact ⟨rfl, h1.drewN _, (hA.trans (hA1.mono (by simp))).drewN _⟩
    · rw [hq] at kP
      have kK := fun W => tnodeC (pkC s.data.toList b no) W hc0 hc1
      cases hp : dtNode (pkC s.data.toList b no)
      · have HF := HG.out
        rw [hn (.inr hp)] at HF
        subst HF
        rw [hp] at kK
        clear hq hy hn HG hat hp hc0 hc1
        generalize pkC s.data.toList b no = c at kP kK
        go_wp2_with (first
          | (go_at_call 189; refine (kP _ hsc hb hs).mono ?_; rintro e w1 ⟨rfl, h1, hA1⟩)
          | (go_at_call 229; refine (kK _).mono ?_; rintro e w2 ⟨rfl, hA2⟩; have h2 := h1.aw hA2 (by simp); obtain ⟨⟨d0, d1, d2⟩, g1, g2⟩ := h2.facts))
        go_quiet (fail)
        go_wp2_with fail
        go_ret
        exact ⟨rfl, h2.drewN _, ((hA.trans (hA1.mono (by simp))).trans (hA2.mono (by simp))).drewN _⟩
      · obtain ⟨e1, e2⟩ := hy hq hp
        have HF := Lib.hid (e1.symm.trans HG.out)
        rw [HL.out] at e2
        rw [hp] at kK
        clear hq hy hn HG e1 hp hc0 hc1
        generalize pkC s.data.toList b no = c at kP kK
        go_wp2_with (first
          | (go_at_call 189; refine (kP _ hsc hb hs).mono ?_; rintro e w1 ⟨rfl, h1, hA1⟩)
          | (go_at_call 229; refine (kK _).mono ?_; rintro e w2 ⟨rfl, hA2⟩; have h2 := h1.aw hA2 (by simp); obtain ⟨⟨d0, d1, d2⟩, g1, g2⟩ := h2.facts))
        exact ⟨⟨b + 1, by omega, by omega, h2.at1, ((hA.trans (hA1.mono (by simp))).trans (hA2.mono (by simp))).setCell (.inl (by simp)) _, HF⟩, by (rw [h2.at1.atOf, hat]; omega)⟩
set_option maxHeartbeats 1600000 in
theorem some_tnode (g : Nat) (s : ByteArray) (a : Nat) (no : Bool) (b' : Nat) (n' : Bool) (w : World) (h : Sc w g s a no) (ha : a ≤ s.size) (hs : s.size ≤ 4611686018427387904) (hR : someS s.data.toList dtNode a no = (b', n')) :
    Calls Tryz.prog 135 #[.pointer (some ⟨g, 0, none⟩), .func (.func 229) #[] #[]] w fun e w' => e = .returned (.string (s.extract a b')) ∧ Sc w' g s b' n' ∧ Aw [g] w w' := by
  have hL : s.data.toList.length = s.size := by simp
  have hw : whN s.data.toList dtNode a no = b' := by
    unfold whN; unfold someS at hR
    cases no
    · simp only [Bool.false_eq_true, if_false] at hR ⊢; injection hR
    · simp only [if_true] at hR ⊢; injection hR
  have kW := while_tnode g s a no b'
  have hle := whN_le s.data.toList dtNode a no (by rw [hL]; exact ha)
  rw [hw, hL] at hle
  cases no
  · have hn : (b' == a) = n' := by
      unfold someS at hR
      simp only [Bool.false_eq_true, if_false] at hR
      injection hR with e1 e2
      rw [← e2, e1]
    have h3 : (s.extract a b').data.toList.length = b' - a := by simp; omega
    have h4 : ((s.extract a b').toList == []) = n' := by
      rw [ByteArray.toList_eq, ← hn]
      apply bcl
      rw [beq_iff_eq, beq_iff_eq, ← List.length_eq_zero_iff, h3]
      omega
    have h5 : (s.extract a b').toList.isEmpty = n' := by
      rw [← h4]
      cases (s.extract a b').toList <;> rfl
    clear hR hn h3 hL
    generalize s.extract a b' = t at h4 h5 kW ⊢
    go_enter Tryz.func135, Tryz.ntmps135
    go_wp2_with (go_at_call 186; refine (kW _ h ha hs hw).mono ?_; rintro e w1 ⟨rfl, h1, hA1⟩; obtain ⟨⟨d0, d1, d2⟩, g1, g2⟩ := h1.facts)
    go_ret
    exact ⟨rfl, h1.no1 _, hA1.setCell (.inl (by simp)) _⟩
  · obtain rfl : true = n' := by unfold someS at hR; simp only [if_true] at hR; injection hR
    clear hR hL
    generalize s.extract a b' = t at kW ⊢
    go_enter Tryz.func135, Tryz.ntmps135
    go_wp2_with (go_at_call 186; refine (kW _ h ha hs hw).mono ?_; rintro e w1 ⟨rfl, h1, hA1⟩; obtain ⟨⟨d0, d1, d2⟩, g1, g2⟩ := h1.facts)
    go_ret
    exact ⟨rfl, h1.no1 true, hA1.setCell (.inl (by simp)) _⟩
set_option maxHeartbeats 1600000 in
theorem while_tink (g : Nat) (s : ByteArray) (a : Nat) (no : Bool) (b' : Nat) (w : World) (h : Sc w g s a no) (ha : a ≤ s.size) (hs : s.size ≤ 4611686018427387904) (hR : whN s.data.toList tmInk a no = b') :
    Calls Tryz.prog 186 #[.pointer (some ⟨g, 0, none⟩), .func (.func 234) #[] #[]] w fun e w' => e = .returned (.string (s.extract a b')) ∧ Sc w' g s b' no ∧ Aw [g] w w' := by
  have HL : Hid (s.data.toList.length = s.size) := Lib.hid (by simp)
  have HR := Lib.hid hR
  have ha0 : (0 : Int) ≤ a := by omega
  clear hR
  obtain ⟨⟨c0, c1, c2⟩, f1, f2⟩ := h.facts
  go_enter Tryz.func186, Tryz.ntmps186
  go_wp2_with fail
  go_loopw [6] (fun _ wr => ∃ b : Nat, a ≤ b ∧ b ≤ s.size ∧ Sc wr g s b no ∧ Aw [g] w wr ∧ Hid (whN s.data.toList tmInk b no = b')) (fun _ wr => s.size - atOf wr g)
  case atStart => exact ⟨a, Nat.le_refl _, ha, h, Aw.refl _ _, HR⟩
  case round =>
    obtain ⟨b, hab, hb, hsc, hA, HG⟩ := hrel
    clear HR h c0 c1 c2 f1 f2
    have kP := peek_any g s b no
    have hy := fun h1 h2 => whN_yes (l := s.data.toList) (p := tmInk) (a := b) (no := no) h1 h2
    have hn := fun h1 => whN_no (l := s.data.toList) (p := tmInk) (a := b) (no := no) h1 (by rw [HL.out]; exact hb)
    have hab' : (a : Int) ≤ b := by omega
    have hb' : (b : Int) ≤ s.size := by omega
    have hat := hsc.atOf
    obtain ⟨hc0, hc1⟩ := pkC_bd s.data.toList b no
    cases hq : pkB s.data.toList b no
    · have HF := HG.out
      rw [hn (.inl hq)] at HF
      subst HF
      rw [hq] at kP
      clear hq hy hn HG hat hc0 hc1
      generalize pkC s.data.toList b no = c at kP
      go_wp2_with (go_at_call 189; refine (kP _ hsc hb hs).mono ?_; rintro e w1 ⟨rfl, h1, hA1⟩; obtain ⟨⟨d0, d1, d2⟩, g1, g2⟩ := h1.facts)
      go_quiet (fail)
      go_wp2_with fail
      go_ret
      exact ⟨rfl, h1.drewN _, (hA.trans (hA1.mono (by simp))).drewN _⟩
    · rw [hq] at kP
      have kK := fun W => tinkC (pkC s.data.toList b no) W hc0 hc1
      cases hp : tmInk (pkC s.data.toList b no)
      · have HF := HG.out
        rw [hn (.inr hp)] at HF
        subst HF
        rw [hp] at kK
        clear hq hy hn HG hat hp hc0 hc1
        generalize pkC s.data.toList b no = c at kP kK
        go_wp2_with (first
          | (go_at_call 189; refine (kP _ hsc hb hs).mono ?_; rintro e w1 ⟨rfl, h1, hA1⟩)
          | (go_at_call 234; refine (kK _).mono ?_; rintro e w2 ⟨rfl, hA2⟩; have h2 := h1.aw hA2 (by simp); obtain ⟨⟨d0, d1, d2⟩, g1, g2⟩ := h2.facts))
        go_quiet (fail)
        go_wp2_with fail
        go_ret
        exact ⟨rfl, h2.drewN _, ((hA.trans (hA1.mono (by simp))).trans (hA2.mono (by simp))).drewN _⟩
      · obtain ⟨e1, e2⟩ := hy hq hp
        have HF := Lib.hid (e1.symm.trans HG.out)
        rw [HL.out] at e2
        rw [hp] at kK
        clear hq hy hn HG e1 hp hc0 hc1
        generalize pkC s.data.toList b no = c at kP kK
        go_wp2_with (first
          | (go_at_call 189; refine (kP _ hsc hb hs).mono ?_; rintro e w1 ⟨rfl, h1, hA1⟩)
          | (go_at_call 234; refine (kK _).mono ?_; rintro e w2 ⟨rfl, hA2⟩; have h2 := h1.aw hA2 (by simp); obtain ⟨⟨d0, d1, d2⟩, g1, g2⟩ := h2.facts))
        exact ⟨⟨b + 1, by omega, by omega, h2.at1, ((hA.trans (hA1.mono (by simp))).trans (hA2.mono (by simp))).setCell (.inl (by simp)) _, HF⟩, by (rw [h2.at1.atOf, hat]; omega)⟩
set_option maxHeartbeats 1600000 in
theorem some_tink (g : Nat) (s : ByteArray) (a : Nat) (no : Bool) (b' : Nat) (n' : Bool) (w : World) (h : Sc w g s a no) (ha : a ≤ s.size) (hs : s.size ≤ 4611686018427387904) (hR : someS s.data.toList tmInk a no = (b', n')) :
    Calls Tryz.prog 135 #[.pointer (some ⟨g, 0, none⟩), .func (.func 234) #[] #[]] w fun e w' => e = .returned (.string (s.extract a b')) ∧ Sc w' g s b' n' ∧ Aw [g] w w' := by
  have hL : s.data.toList.length = s.size := by simp
  have hw : whN s.data.toList tmInk a no = b' := by
    unfold whN; unfold someS at hR
    cases no
    · simp only [Bool.false_eq_true, if_false] at hR ⊢; injection hR
    · simp only [if_true] at hR ⊢; injection hR
  have kW := while_tink g s a no b'
  have hle := whN_le s.data.toList tmInk a no (by rw [hL]; exact ha)
  rw [hw, hL] at hle
  cases no
  · have hn : (b' == a) = n' := by
      unfold someS at hR
      simp only [Bool.false_eq_true, if_false] at hR
      injection hR with e1 e2
      rw [← e2, e1]
    have h3 : (s.extract a b').data.toList.length = b' - a := by simp; omega
    have h4 : ((s.extract a b').toList == []) = n' := by
      rw [ByteArray.toList_eq, ← hn]
      apply bcl
      rw [beq_iff_eq, beq_iff_eq, ← List.length_eq_zero_iff, h3]
      omega
    have h5 : (s.extract a b').toList.isEmpty = n' := by
      rw [← h4]
      cases (s.extract a b').toList <;> rfl
    clear hR hn h3 hL
    generalize s.extract a b' = t at h4 h5 kW ⊢
    go_enter Tryz.func135, Tryz.ntmps135
    go_wp2_with (go_at_call 186; refine (kW _ h ha hs hw).mono ?_; rintro e w1 ⟨rfl, h1, hA1⟩; obtain ⟨⟨d0, d1, d2⟩, g1, g2⟩ := h1.facts)
    go_ret
    exact ⟨rfl, h1.no1 _, hA1.setCell (.inl (by simp)) _⟩
  · obtain rfl : true = n' := by unfold someS at hR; simp only [if_true] at hR; injection hR
    clear hR hL
    generalize s.extract a b' = t at kW ⊢
    go_enter Tryz.func135, Tryz.ntmps135
    go_wp2_with (go_at_call 186; refine (kW _ h ha hs hw).mono ?_; rintro e w1 ⟨rfl, h1, hA1⟩; obtain ⟨⟨d0, d1, d2⟩, g1, g2⟩ := h1.facts)
    go_ret
    exact ⟨rfl, h1.no1 true, hA1.setCell (.inl (by simp)) _⟩
end Go.Proofs.YtoplengednoldaaGreatDoor
