/- The walk of the reference's Run, by class. -/
import Derived.Test.YtdngieihlcknmaaDoorRefE
import Derived.Test.YtdngieihlcknmaaDoorOpenDef
namespace Go.Proofs.YtdngieihlcknmaaDoor
set_option linter.unusedVariables false
set_option linter.unusedSimpArgs false
open Go.RowKit
set_option maxHeartbeats 1600000 in
theorem in1_any (c : Int) (w : World) (h0 : 0 ≤ c) (h1 : c ≤ 255) : Calls Tryd.prog 47 #[.int .u8 c, .int .i64 1] w fun e w' => e = .returned (.bool (smB c)) ∧ w' = w := by
  go_enter Tryd.func47, Tryd.ntmps47
  go_wp2_with fail
  all_goals go_ret
  all_goals refine ⟨ret_bool (bcl ?_), rfl⟩
  all_goals (simp [owName, owLabel, smB, letB, digB] <;> omega)
theorem in1C {c : Int} {q : Bool} (h : smB c = q) (h0 : 0 ≤ c) (h1 : c ≤ 255) (w : World) (n : Nat) : Calls Tryd.prog 47 #[.int .u8 c, .int .i64 1] (w.drewN n) fun e w' => e = .returned (.bool q) ∧ w' = w.drewN n := by
  rw [← h]; exact in1_any c _ h0 h1
set_option maxHeartbeats 1600000 in
theorem in2_any (c : Int) (w : World) (h0 : 0 ≤ c) (h1 : c ≤ 255) : Calls Tryd.prog 47 #[.int .u8 c, .int .i64 2] w fun e w' => e = .returned (.bool (owName c)) ∧ w' = w := by
  go_enter Tryd.func47, Tryd.ntmps47
  go_wp2_with fail
  all_goals go_ret
  all_goals refine ⟨ret_bool (bcl ?_), rfl⟩
  all_goals (simp [owName, owLabel, smB, letB, digB] <;> omega)
theorem in2C {c : Int} {q : Bool} (h : owName c = q) (h0 : 0 ≤ c) (h1 : c ≤ 255) (w : World) (n : Nat) : Calls Tryd.prog 47 #[.int .u8 c, .int .i64 2] (w.drewN n) fun e w' => e = .returned (.bool q) ∧ w' = w.drewN n := by
  rw [← h]; exact in2_any c _ h0 h1
set_option maxHeartbeats 1600000 in
theorem in3_any (c : Int) (w : World) (h0 : 0 ≤ c) (h1 : c ≤ 255) : Calls Tryd.prog 47 #[.int .u8 c, .int .i64 3] w fun e w' => e = .returned (.bool (owLabel c)) ∧ w' = w := by
  go_enter Tryd.func47, Tryd.ntmps47
  go_wp2_with fail
  all_goals go_ret
  all_goals refine ⟨ret_bool (bcl ?_), rfl⟩
  all_goals (simp [owName, owLabel, smB, letB, digB] <;> omega)
theorem in3C {c : Int} {q : Bool} (h : owLabel c = q) (h0 : 0 ≤ c) (h1 : c ≤ 255) (w : World) (n : Nat) : Calls Tryd.prog 47 #[.int .u8 c, .int .i64 3] (w.drewN n) fun e w' => e = .returned (.bool q) ∧ w' = w.drewN n := by
  rw [← h]; exact in3_any c _ h0 h1
set_option maxRecDepth 100000 in
set_option maxHeartbeats 3200000 in
theorem run_small (g : Nat) (s : ByteArray) (a : Nat) (no : Bool) (b' : Nat) (n' : Bool) (w : World) (h : Sr w g s a no) (ha : a ≤ s.size) (hs : s.size ≤ 1048576) (hR : someS s.data.toList smB a no = (b', n')) :
    Calls Tryd.prog 34 #[.pointer (some ⟨g, 0, none⟩), .int .i64 1, .string ⟨#[]⟩, .bool false] w fun e w' => e = .returned (.string (s.extract a b')) ∧ Sr w' g s b' n' ∧ Aw [g] w w' := by
  have HL : Hid (s.data.toList.length = s.size) := Lib.hid (by simp)
  have hw : whN s.data.toList smB a no = b' := by
    unfold whN; unfold someS at hR
    cases no
    · simp only [Bool.false_eq_true, if_false] at hR ⊢; injection hR
    · simp only [if_true] at hR ⊢; injection hR
  have hle := whN_le s.data.toList smB a no (by rw [HL.out]; exact ha)
  rw [hw, HL.out] at hle
  have hend : n' = (no || b' == a) := by
    unfold someS at hR
    cases no
    · simp only [Bool.false_eq_true, if_false] at hR
      injection hR with e1 e2
      rw [← e2, e1]; rfl
    · simp only [if_true] at hR
      injection hR with e1 e2
      rw [← e2]; rfl
  have HR := Lib.hid hw
  have HE := Lib.hid hend
  have ha0 : (0 : Int) ≤ a := by omega
  have hle1 : (a : Int) ≤ b' := by omega
  have hle2 : (b' : Int) ≤ s.size := by omega
  clear hR hw hend
  obtain ⟨⟨c0, c1, c2⟩, f1, f2⟩ := h.facts
  go_enter Tryd.func34, Tryd.ntmps34
  go_wp2_with fail
  go_loopw [14] (fun _ wr => ∃ b : Nat, a ≤ b ∧ b ≤ s.size ∧ Sr wr g s b no ∧ Aw [g] w wr ∧ Hid (whN s.data.toList smB b no = b')) (fun _ wr => s.size - atOf wr g)
  case atStart => exact ⟨a, Nat.le_refl _, ha, h, Aw.refl _ _, HR⟩
  case round =>
    obtain ⟨b, hab, hb, hS, hA, HG⟩ := hrel
    clear HR h c0 c1 c2 f1 f2
    obtain ⟨⟨c0, c1, c2⟩, f1, f2⟩ := hS.facts
    have hat := hS.atOf
    have hj0 : (0 : Int) ≤ b := by omega
    by_cases hgo : no = false ∧ ∃ h : b < s.size, smB ((s[b]'h).toNat : Int) = true
    · obtain ⟨rfl, hlt, hd⟩ := hgo
      have hd2 : decide ((b : Int) < s.size) = true := decide_eq_true (by omega)
      have hj1 : (b : Int) < s.size := by omega
      have HK : Hid (whN s.data.toList smB (b + 1) false = b') := Lib.hid (by
        rw [← HG.out]
        refine (whN_yes (by simp [pkB]; omega) ?_).1.symm
        unfold pkC
        rw [if_pos (by simp [pkB]; omega), ← getElem_bt hlt]; exact hd)
      clear HG
      go_wp2_with fail
      refine wp_region_quiet_lit (by kernel_rfl) (by kernel_rfl) ?_
      simp only [List.append]
      repeat (go_big_quiet_step (first
        | (go_at_call 47; exact Calls.quiet_of_same (in1C hd (by omega) (by have := (s[b]'hlt).toNat_lt; omega) _ _))
        | (go_at_call 48; exact Calls.quiet_of_same (has0 _ _ _))))
      refine wpQuiet_nil ?_
      intro _ hw'
      obtain ⟨nq, hw''⟩ := hw'
      subst hw''
      go_wp2_with fail
      have hS2 := (hS.drewN nq).at1
      exact ⟨⟨b + 1, by omega, by omega, (hS.drewN _).at1, (hA.drewN _).setCell (.inl (by simp)) _, HK⟩, by (rw [((hS.drewN _).at1).atOf, hat]; omega)⟩
    · obtain rfl : b = b' := by
        have := HG.out
        rw [whN_no ?_ (by rw [HL.out]; exact hb)] at this
        · exact this
        · cases no
          · by_cases hlt : b < s.size
            · right
              cases hd : smB ((s[b]'hlt).toNat : Int)
              · unfold pkC
                rw [if_pos (by simp [pkB]; omega), ← getElem_bt hlt]; exact hd
              · exact absurd ⟨rfl, hlt, hd⟩ hgo
            · left; simp [pkB]; omega
          · left; rfl
      clear HG
      have hE := HE.out
      obtain ⟨q, hq⟩ : ∃ q, ((b : Int) == (a : Int)) = q := ⟨_, rfl⟩
      have hqn : (b == a) = q := by rw [← hq]; apply bcl; simp; omega
      rw [hqn] at hE
      clear hqn HE
      cases no
      case true =>
        rw [Bool.true_or] at hE
        subst hE
        clear hgo
        go_wp2_with fail
        refine wp_region_quiet_lit (by kernel_rfl) (by kernel_rfl) ?_
        simp only [List.append]
        repeat (go_big_quiet_step (fail))
        refine wpQuiet_nil ?_
        intro _ hw'
        obtain ⟨nq, hw''⟩ := hw'
        subst hw''
        cases q
        · go_wp2_with fail
          go_quiet (fail)
          go_wp2_with fail
          go_ret
          exact ⟨rfl, (hS.drewN _).drewN _, (hA.drewN _).drewN _⟩
        · go_wp2_with fail
          go_quiet (fail)
          go_wp2_with fail
          go_ret
          exact ⟨rfl, ((hS.drewN _).no1 true).drewN _, ((hA.drewN _).setCell (.inl (by simp)) _).drewN _⟩
      case false =>
        rw [Bool.false_or] at hE
        subst hE
        by_cases hlt : b < s.size
        case neg =>
          have hd2 : decide ((b : Int) < s.size) = false := decide_eq_false (by omega)
          clear hgo
          go_wp2_with fail
          refine wp_region_quiet_lit (by kernel_rfl) (by kernel_rfl) ?_
          simp only [List.append]
          repeat (go_big_quiet_step (fail))
          refine wpQuiet_nil ?_
          intro _ hw'
          obtain ⟨nq, hw''⟩ := hw'
          subst hw''
          cases n'
          · go_wp2_with fail
            go_quiet (fail)
            go_wp2_with fail
            go_ret
            exact ⟨rfl, (hS.drewN _).drewN _, (hA.drewN _).drewN _⟩
          · go_wp2_with fail
            go_quiet (fail)
            go_wp2_with fail
            go_ret
            exact ⟨rfl, ((hS.drewN _).no1 true).drewN _, ((hA.drewN _).setCell (.inl (by simp)) _).drewN _⟩
        case pos =>
          have hd2 : decide ((b : Int) < s.size) = true := decide_eq_true (by omega)
          have hj1 : (b : Int) < s.size := by omega
          have hd : smB ((s[b]'hlt).toNat : Int) = false := by
            cases hd : smB ((s[b]'hlt).toNat : Int)
            · rfl
            · exact absurd ⟨rfl, hlt, hd⟩ hgo
          clear hgo
          go_wp2_with fail
          refine wp_region_quiet_lit (by kernel_rfl) (by kernel_rfl) ?_
          simp only [List.append]
          repeat (go_big_quiet_step ((go_at_call 47; exact Calls.quiet_of_same (in1C hd (by omega) (by have := (s[b]'hlt).toNat_lt; omega) _ _))))
          refine wpQuiet_nil ?_
          intro _ hw'
          obtain ⟨nq, hw''⟩ := hw'
          subst hw''
          cases n'
          · go_wp2_with fail
            go_quiet (fail)
            go_wp2_with fail
            go_ret
            exact ⟨rfl, (hS.drewN _).drewN _, (hA.drewN _).drewN _⟩
          · go_wp2_with fail
            go_quiet (fail)
            go_wp2_with fail
            go_ret
            exact ⟨rfl, ((hS.drewN _).no1 true).drewN _, ((hA.drewN _).setCell (.inl (by simp)) _).drewN _⟩
set_option maxRecDepth 100000 in
set_option maxHeartbeats 3200000 in
theorem run_name (g : Nat) (s : ByteArray) (a : Nat) (no : Bool) (b' : Nat) (n' : Bool) (w : World) (h : Sr w g s a no) (ha : a ≤ s.size) (hs : s.size ≤ 1048576) (hR : someS s.data.toList owName a no = (b', n')) :
    Calls Tryd.prog 34 #[.pointer (some ⟨g, 0, none⟩), .int .i64 2, .string ⟨#[]⟩, .bool false] w fun e w' => e = .returned (.string (s.extract a b')) ∧ Sr w' g s b' n' ∧ Aw [g] w w' := by
  have HL : Hid (s.data.toList.length = s.size) := Lib.hid (by simp)
  have hw : whN s.data.toList owName a no = b' := by
    unfold whN; unfold someS at hR
    cases no
    · simp only [Bool.false_eq_true, if_false] at hR ⊢; injection hR
    · simp only [if_true] at hR ⊢; injection hR
  have hle := whN_le s.data.toList owName a no (by rw [HL.out]; exact ha)
  rw [hw, HL.out] at hle
  have hend : n' = (no || b' == a) := by
    unfold someS at hR
    cases no
    · simp only [Bool.false_eq_true, if_false] at hR
      injection hR with e1 e2
      rw [← e2, e1]; rfl
    · simp only [if_true] at hR
      injection hR with e1 e2
      rw [← e2]; rfl
  have HR := Lib.hid hw
  have HE := Lib.hid hend
  have ha0 : (0 : Int) ≤ a := by omega
  have hle1 : (a : Int) ≤ b' := by omega
  have hle2 : (b' : Int) ≤ s.size := by omega
  clear hR hw hend
  obtain ⟨⟨c0, c1, c2⟩, f1, f2⟩ := h.facts
  go_enter Tryd.func34, Tryd.ntmps34
  go_wp2_with fail
  go_loopw [14] (fun _ wr => ∃ b : Nat, a ≤ b ∧ b ≤ s.size ∧ Sr wr g s b no ∧ Aw [g] w wr ∧ Hid (whN s.data.toList owName b no = b')) (fun _ wr => s.size - atOf wr g)
  case atStart => exact ⟨a, Nat.le_refl _, ha, h, Aw.refl _ _, HR⟩
  case round =>
    obtain ⟨b, hab, hb, hS, hA, HG⟩ := hrel
    clear HR h c0 c1 c2 f1 f2
    obtain ⟨⟨c0, c1, c2⟩, f1, f2⟩ := hS.facts
    have hat := hS.atOf
    have hj0 : (0 : Int) ≤ b := by omega
    by_cases hgo : no = false ∧ ∃ h : b < s.size, owName ((s[b]'h).toNat : Int) = true
    · obtain ⟨rfl, hlt, hd⟩ := hgo
      have hd2 : decide ((b : Int) < s.size) = true := decide_eq_true (by omega)
      have hj1 : (b : Int) < s.size := by omega
      have HK : Hid (whN s.data.toList owName (b + 1) false = b') := Lib.hid (by
        rw [← HG.out]
        refine (whN_yes (by simp [pkB]; omega) ?_).1.symm
        unfold pkC
        rw [if_pos (by simp [pkB]; omega), ← getElem_bt hlt]; exact hd)
      clear HG
      go_wp2_with fail
      refine wp_region_quiet_lit (by kernel_rfl) (by kernel_rfl) ?_
      simp only [List.append]
      repeat (go_big_quiet_step (first
        | (go_at_call 47; exact Calls.quiet_of_same (in2C hd (by omega) (by have := (s[b]'hlt).toNat_lt; omega) _ _))
        | (go_at_call 48; exact Calls.quiet_of_same (has0 _ _ _))))
      refine wpQuiet_nil ?_
      intro _ hw'
      obtain ⟨nq, hw''⟩ := hw'
      subst hw''
      go_wp2_with fail
      have hS2 := (hS.drewN nq).at1
      exact ⟨⟨b + 1, by omega, by omega, (hS.drewN _).at1, (hA.drewN _).setCell (.inl (by simp)) _, HK⟩, by (rw [((hS.drewN _).at1).atOf, hat]; omega)⟩
    · obtain rfl : b = b' := by
        have := HG.out
        rw [whN_no ?_ (by rw [HL.out]; exact hb)] at this
        · exact this
        · cases no
          · by_cases hlt : b < s.size
            · right
              cases hd : owName ((s[b]'hlt).toNat : Int)
              · unfold pkC
                rw [if_pos (by simp [pkB]; omega), ← getElem_bt hlt]; exact hd
              · exact absurd ⟨rfl, hlt, hd⟩ hgo
            · left; simp [pkB]; omega
          · left; rfl
      clear HG
      have hE := HE.out
      obtain ⟨q, hq⟩ : ∃ q, ((b : Int) == (a : Int)) = q := ⟨_, rfl⟩
      have hqn : (b == a) = q := by rw [← hq]; apply bcl; simp; omega
      rw [hqn] at hE
      clear hqn HE
      cases no
      case true =>
        rw [Bool.true_or] at hE
        subst hE
        clear hgo
        go_wp2_with fail
        refine wp_region_quiet_lit (by kernel_rfl) (by kernel_rfl) ?_
        simp only [List.append]
        repeat (go_big_quiet_step (fail))
        refine wpQuiet_nil ?_
        intro _ hw'
        obtain ⟨nq, hw''⟩ := hw'
        subst hw''
        cases q
        · go_wp2_with fail
          go_quiet (fail)
          go_wp2_with fail
          go_ret
          exact ⟨rfl, (hS.drewN _).drewN _, (hA.drewN _).drewN _⟩
        · go_wp2_with fail
          go_quiet (fail)
          go_wp2_with fail
          go_ret
          exact ⟨rfl, ((hS.drewN _).no1 true).drewN _, ((hA.drewN _).setCell (.inl (by simp)) _).drewN _⟩
      case false =>
        rw [Bool.false_or] at hE
        subst hE
        by_cases hlt : b < s.size
        case neg =>
          have hd2 : decide ((b : Int) < s.size) = false := decide_eq_false (by omega)
          clear hgo
          go_wp2_with fail
          refine wp_region_quiet_lit (by kernel_rfl) (by kernel_rfl) ?_
          simp only [List.append]
          repeat (go_big_quiet_step (fail))
          refine wpQuiet_nil ?_
          intro _ hw'
          obtain ⟨nq, hw''⟩ := hw'
          subst hw''
          cases n'
          · go_wp2_with fail
            go_quiet (fail)
            go_wp2_with fail
            go_ret
            exact ⟨rfl, (hS.drewN _).drewN _, (hA.drewN _).drewN _⟩
          · go_wp2_with fail
            go_quiet (fail)
            go_wp2_with fail
            go_ret
            exact ⟨rfl, ((hS.drewN _).no1 true).drewN _, ((hA.drewN _).setCell (.inl (by simp)) _).drewN _⟩
        case pos =>
          have hd2 : decide ((b : Int) < s.size) = true := decide_eq_true (by omega)
          have hj1 : (b : Int) < s.size := by omega
          have hd : owName ((s[b]'hlt).toNat : Int) = false := by
            cases hd : owName ((s[b]'hlt).toNat : Int)
            · rfl
            · exact absurd ⟨rfl, hlt, hd⟩ hgo
          clear hgo
          go_wp2_with fail
          refine wp_region_quiet_lit (by kernel_rfl) (by kernel_rfl) ?_
          simp only [List.append]
          repeat (go_big_quiet_step ((go_at_call 47; exact Calls.quiet_of_same (in2C hd (by omega) (by have := (s[b]'hlt).toNat_lt; omega) _ _))))
          refine wpQuiet_nil ?_
          intro _ hw'
          obtain ⟨nq, hw''⟩ := hw'
          subst hw''
          cases n'
          · go_wp2_with fail
            go_quiet (fail)
            go_wp2_with fail
            go_ret
            exact ⟨rfl, (hS.drewN _).drewN _, (hA.drewN _).drewN _⟩
          · go_wp2_with fail
            go_quiet (fail)
            go_wp2_with fail
            go_ret
            exact ⟨rfl, ((hS.drewN _).no1 true).drewN _, ((hA.drewN _).setCell (.inl (by simp)) _).drewN _⟩
end Go.Proofs.YtdngieihlcknmaaDoor
