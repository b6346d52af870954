/- The walk of the reference's Run, by class, the first byte no digit. -/
import Derived.Test.YtdngieihlcknmaaDoorRefO
namespace Go.Proofs.YtdngieihlcknmaaDoor
set_option linter.unusedVariables false
set_option linter.unusedSimpArgs false
open Go.RowKit
set_option maxRecDepth 100000 in
set_option maxHeartbeats 25600000 in
theorem run1_name (g : Nat) (s : ByteArray) (a : Nat) (no : Bool) (b' : Nat) (n' : Bool) (w : World) (h : Sr w g s a no) (ha : a ≤ s.size) (hs : s.size ≤ 1048576) (hnd : no = false → ∀ h : a < s.size, digB ((s[a]'h).toNat : Int) = false) (hR : someS s.data.toList owName a no = (b', n')) :
    Calls Tryd.prog 34 #[.pointer (some ⟨g, 0, none⟩), .int .i64 2, .string ⟨#[]⟩, .bool true] w fun e w' => e = .returned (.string (s.extract a b')) ∧ Sr w' g s b' n' ∧ Aw [g] w w' := by
  have HL : Hid (s.data.toList.length = s.size) := Lib.hid (by simp)
  have hw : whN s.data.toList owName a no = b' := by
    unfold whN; unfold someS at hR
    cases no
    · simp only [Bool.false_eq_true, if_false] at hR ⊢; injection hR
    · simp only [if_true] at hR ⊢; injection hR
  have hle := whN_le s.data.toList owName a no (by rw [HL.out]; exact ha)
  rw [hw, HL.out] at hle
  have hend : n' = (no || b' == a) := by
    unfold someS at hR
    cases no
    · simp only [Bool.false_eq_true, if_false] at hR
      injection hR with e1 e2
      rw [← e2, e1]; rfl
    · simp only [if_true] at hR
      injection hR with e1 e2
      rw [← e2]; rfl
  have HR := Lib.hid hw
  have HE := Lib.hid hend
  have ha0 : (0 : Int) ≤ a := by omega
  have hle1 : (a : Int) ≤ b' := by omega
  have hle2 : (b' : Int) ≤ s.size := by omega
  clear hR hw hend
  obtain ⟨⟨c0, c1, c2⟩, f1, f2⟩ := h.facts
  go_enter Tryd.func34, Tryd.ntmps34
  go_wp2_with fail
  go_loopw [14] (fun _ wr => ∃ b : Nat, a ≤ b ∧ b ≤ s.size ∧ Sr wr g s b no ∧ Aw [g] w wr ∧ Hid (whN s.data.toList owName b no = b')) (fun _ wr => s.size - atOf wr g)
  case atStart => exact ⟨a, Nat.le_refl _, ha, h, Aw.refl _ _, HR⟩
  case round =>
    obtain ⟨b, hab, hb, hS, hA, HG⟩ := hrel
    clear HR h c0 c1 c2 f1 f2
    obtain ⟨⟨c0, c1, c2⟩, f1, f2⟩ := hS.facts
    have hat := hS.atOf
    have hj0 : (0 : Int) ≤ b := by omega
    by_cases hgo : no = false ∧ ∃ h : b < s.size, owName ((s[b]'h).toNat : Int) = true
    · obtain ⟨rfl, hlt, hd⟩ := hgo
      have hd2 : decide ((b : Int) < s.size) = true := decide_eq_true (by omega)
      have hj1 : (b : Int) < s.size := by omega
      have HK : Hid (whN s.data.toList owName (b + 1) false = b') := Lib.hid (by
        rw [← HG.out]
        refine (whN_yes (by simp [pkB]; omega) ?_).1.symm
        unfold pkC
        rw [if_pos (by simp [pkB]; omega), ← getElem_bt hlt]; exact hd)
      clear HG
      obtain ⟨q, hq⟩ : ∃ q, ((b : Int) == (a : Int)) = q := ⟨_, rfl⟩
      have dC : q = true → digB ((s[b]'hlt).toNat : Int) = false := fun h => by
        rw [h, beq_iff_eq] at hq
        obtain rfl : b = a := by omega
        exact hnd rfl hlt
      clear hnd
      have hx0 : (0 : Int) ≤ ((s[b]'hlt).toNat : Int) := by omega
      have hx1 : ((s[b]'hlt).toNat : Int) ≤ 255 := by have := (s[b]'hlt).toNat_lt; omega
      cases q
      · go_wp2_with fail
        refine wp_region_quiet_lit (by kernel_rfl) (by kernel_rfl) ?_
        try simp only [List.append]
        repeat (go_big_quiet_step (first
          | (go_at_call 47; with_reducible exact Calls.quiet_of_same (in2C hd hx0 hx1 _ _))
          | (go_at_call 47; with_reducible exact Calls.quiet_of_same (digC (dC rfl) _ _))
          | (go_at_call 48; with_reducible exact Calls.quiet_of_same (has0 _ _ _))))
        refine wpQuiet_nil ?_
        intro _ hw'
        obtain ⟨nq, hw''⟩ := hw'
        subst hw''
        go_wp2_with fail
        have hS2 := (hS.drewN nq).at1
        exact ⟨⟨b + 1, by omega, by omega, (hS.drewN _).at1, (hA.drewN _).setCell (.inl (by simp)) _, HK⟩, by (rw [((hS.drewN _).at1).atOf, hat]; omega)⟩
      · obtain rfl : b = a := by
          rw [beq_iff_eq] at hq; omega
        have dD := dC rfl
        clear dC hq
        have hq2 : ((b : Int) == (b : Int)) = true := by simp
        go_wp2_with fail
        refine wp_region_quiet_lit (by kernel_rfl) (by kernel_rfl) ?_
        try simp only [List.append]
        repeat (go_big_quiet_step (first
          | (go_at_call 47; with_reducible exact Calls.quiet_of_same (in2C hd hx0 hx1 _ _))
          | (go_at_call 47; with_reducible exact Calls.quiet_of_same (digC dD _ _))
          | (go_at_call 48; with_reducible exact Calls.quiet_of_same (has0 _ _ _))))
        refine wpQuiet_nil ?_
        intro _ hw'
        obtain ⟨nq, hw''⟩ := hw'
        subst hw''
        go_wp2_with fail
        have hS2 := (hS.drewN nq).at1
        exact ⟨⟨b + 1, by omega, by omega, (hS.drewN _).at1, (hA.drewN _).setCell (.inl (by simp)) _, HK⟩, by (rw [((hS.drewN _).at1).atOf, hat]; omega)⟩
    · clear hnd
      obtain rfl : b = b' := by
        have := HG.out
        rw [whN_no ?_ (by rw [HL.out]; exact hb)] at this
        · exact this
        · cases no
          · by_cases hlt : b < s.size
            · right
              cases hd : owName ((s[b]'hlt).toNat : Int)
              · unfold pkC
                rw [if_pos (by simp [pkB]; omega), ← getElem_bt hlt]; exact hd
              · exact absurd ⟨rfl, hlt, hd⟩ hgo
            · left; simp [pkB]; omega
          · left; rfl
      clear HG
      have hE := HE.out
      obtain ⟨q, hq⟩ : ∃ q, ((b : Int) == (a : Int)) = q := ⟨_, rfl⟩
      have hqn : (b == a) = q := by rw [← hq]; apply bcl; simp; omega
      rw [hqn] at hE
      clear hqn HE
      cases no
      case true =>
        rw [Bool.true_or] at hE
        subst hE
        clear hgo
        go_wp2_with fail
        refine wp_region_quiet_lit (by kernel_rfl) (by kernel_rfl) ?_
        simp only [List.append]
        repeat (go_big_quiet_step (fail))
        refine wpQuiet_nil ?_
        intro _ hw'
        obtain ⟨nq, hw''⟩ := hw'
        subst hw''
        cases q
        · go_wp2_with fail
          go_quiet (fail)
          go_wp2_with fail
          go_ret
          exact ⟨rfl, (hS.drewN _).drewN _, (hA.drewN _).drewN _⟩
        · go_wp2_with fail
          go_quiet (fail)
          go_wp2_with fail
          go_ret
          exact ⟨rfl, ((hS.drewN _).no1 true).drewN _, ((hA.drewN _).setCell (.inl (by simp)) _).drewN _⟩
      case false =>
        rw [Bool.false_or] at hE
        subst hE
        by_cases hlt : b < s.size
        case neg =>
          have hd2 : decide ((b : Int) < s.size) = false := decide_eq_false (by omega)
          clear hgo
          go_wp2_with fail
          refine wp_region_quiet_lit (by kernel_rfl) (by kernel_rfl) ?_
          simp only [List.append]
          repeat (go_big_quiet_step (fail))
          refine wpQuiet_nil ?_
          intro _ hw'
          obtain ⟨nq, hw''⟩ := hw'
          subst hw''
          cases n'
          · go_wp2_with fail
            go_quiet (fail)
            go_wp2_with fail
            go_ret
            exact ⟨rfl, (hS.drewN _).drewN _, (hA.drewN _).drewN _⟩
          · go_wp2_with fail
            go_quiet (fail)
            go_wp2_with fail
            go_ret
            exact ⟨rfl, ((hS.drewN _).no1 true).drewN _, ((hA.drewN _).setCell (.inl (by simp)) _).drewN _⟩
        case pos =>
          have hd2 : decide ((b : Int) < s.size) = true := decide_eq_true (by omega)
          have hj1 : (b : Int) < s.size := by omega
          have hd : owName ((s[b]'hlt).toNat : Int) = false := by
            cases hd : owName ((s[b]'hlt).toNat : Int)
            · rfl
            · exact absurd ⟨rfl, hlt, hd⟩ hgo
          clear hgo
          go_wp2_with fail
          refine wp_region_quiet_lit (by kernel_rfl) (by kernel_rfl) ?_
          simp only [List.append]
          repeat (go_big_quiet_step ((go_at_call 47; exact Calls.quiet_of_same (in2C hd (by omega) (by have := (s[b]'hlt).toNat_lt; omega) _ _))))
          refine wpQuiet_nil ?_
          intro _ hw'
          obtain ⟨nq, hw''⟩ := hw'
          subst hw''
          cases n'
          · go_wp2_with fail
            go_quiet (fail)
            go_wp2_with fail
            go_ret
            exact ⟨rfl, (hS.drewN _).drewN _, (hA.drewN _).drewN _⟩
          · go_wp2_with fail
            go_quiet (fail)
            go_wp2_with fail
            go_ret
            exact ⟨rfl, ((hS.drewN _).no1 true).drewN _, ((hA.drewN _).setCell (.inl (by simp)) _).drewN _⟩
set_option maxRecDepth 100000 in
set_option maxHeartbeats 25600000 in
theorem run1_label (g : Nat) (s : ByteArray) (a : Nat) (no : Bool) (b' : Nat) (n' : Bool) (w : World) (h : Sr w g s a no) (ha : a ≤ s.size) (hs : s.size ≤ 1048576) (hnd : no = false → ∀ h : a < s.size, digB ((s[a]'h).toNat : Int) = false) (hR : someS s.data.toList owLabel a no = (b', n')) :
    Calls Tryd.prog 34 #[.pointer (some ⟨g, 0, none⟩), .int .i64 3, .string ⟨#[]⟩, .bool true] w fun e w' => e = .returned (.string (s.extract a b')) ∧ Sr w' g s b' n' ∧ Aw [g] w w' := by
  have HL : Hid (s.data.toList.length = s.size) := Lib.hid (by simp)
  have hw : whN s.data.toList owLabel a no = b' := by
    unfold whN; unfold someS at hR
    cases no
    · simp only [Bool.false_eq_true, if_false] at hR ⊢; injection hR
    · simp only [if_true] at hR ⊢; injection hR
  have hle := whN_le s.data.toList owLabel a no (by rw [HL.out]; exact ha)
  rw [hw, HL.out] at hle
  have hend : n' = (no || b' == a) := by
    unfold someS at hR
    cases no
    · simp only [Bool.false_eq_true, if_false] at hR
      injection hR with e1 e2
      rw [← e2, e1]; rfl
    · simp only [if_true] at hR
      injection hR with e1 e2
      rw [← e2]; rfl
  have HR := Lib.hid hw
  have HE := Lib.hid hend
  have ha0 : (0 : Int) ≤ a := by omega
  have hle1 : (a : Int) ≤ b' := by omega
  have hle2 : (b' : Int) ≤ s.size := by omega
  clear hR hw hend
  obtain ⟨⟨c0, c1, c2⟩, f1, f2⟩ := h.facts
  go_enter Tryd.func34, Tryd.ntmps34
  go_wp2_with fail
  go_loopw [14] (fun _ wr => ∃ b : Nat, a ≤ b ∧ b ≤ s.size ∧ Sr wr g s b no ∧ Aw [g] w wr ∧ Hid (whN s.data.toList owLabel b no = b')) (fun _ wr => s.size - atOf wr g)
  case atStart => exact ⟨a, Nat.le_refl _, ha, h, Aw.refl _ _, HR⟩
  case round =>
    obtain ⟨b, hab, hb, hS, hA, HG⟩ := hrel
    clear HR h c0 c1 c2 f1 f2
    obtain ⟨⟨c0, c1, c2⟩, f1, f2⟩ := hS.facts
    have hat := hS.atOf
    have hj0 : (0 : Int) ≤ b := by omega
    by_cases hgo : no = false ∧ ∃ h : b < s.size, owLabel ((s[b]'h).toNat : Int) = true
    · obtain ⟨rfl, hlt, hd⟩ := hgo
      have hd2 : decide ((b : Int) < s.size) = true := decide_eq_true (by omega)
      have hj1 : (b : Int) < s.size := by omega
      have HK : Hid (whN s.data.toList owLabel (b + 1) false = b') := Lib.hid (by
        rw [← HG.out]
        refine (whN_yes (by simp [pkB]; omega) ?_).1.symm
        unfold pkC
        rw [if_pos (by simp [pkB]; omega), ← getElem_bt hlt]; exact hd)
      clear HG
      obtain ⟨q, hq⟩ : ∃ q, ((b : Int) == (a : Int)) = q := ⟨_, rfl⟩
      have dC : q = true → digB ((s[b]'hlt).toNat : Int) = false := fun h => by
        rw [h, beq_iff_eq] at hq
        obtain rfl : b = a := by omega
        exact hnd rfl hlt
      clear hnd
      have hx0 : (0 : Int) ≤ ((s[b]'hlt).toNat : Int) := by omega
      have hx1 : ((s[b]'hlt).toNat : Int) ≤ 255 := by have := (s[b]'hlt).toNat_lt; omega
      cases q
      · go_wp2_with fail
        refine wp_region_quiet_lit (by kernel_rfl) (by kernel_rfl) ?_
        try simp only [List.append]
        repeat (go_big_quiet_step (first
          | (go_at_call 47; with_reducible exact Calls.quiet_of_same (in3C hd hx0 hx1 _ _))
          | (go_at_call 47; with_reducible exact Calls.quiet_of_same (digC (dC rfl) _ _))
          | (go_at_call 48; with_reducible exact Calls.quiet_of_same (has0 _ _ _))))
        refine wpQuiet_nil ?_
        intro _ hw'
        obtain ⟨nq, hw''⟩ := hw'
        subst hw''
        go_wp2_with fail
        have hS2 := (hS.drewN nq).at1
        exact ⟨⟨b + 1, by omega, by omega, (hS.drewN _).at1, (hA.drewN _).setCell (.inl (by simp)) _, HK⟩, by (rw [((hS.drewN _).at1).atOf, hat]; omega)⟩
      · obtain rfl : b = a := by
          rw [beq_iff_eq] at hq; omega
        have dD := dC rfl
        clear dC hq
        have hq2 : ((b : Int) == (b : Int)) = true := by simp
        go_wp2_with fail
        refine wp_region_quiet_lit (by kernel_rfl) (by kernel_rfl) ?_
        try simp only [List.append]
        repeat (go_big_quiet_step (first
          | (go_at_call 47; with_reducible exact Calls.quiet_of_same (in3C hd hx0 hx1 _ _))
          | (go_at_call 47; with_reducible exact Calls.quiet_of_same (digC dD _ _))
          | (go_at_call 48; with_reducible exact Calls.quiet_of_same (has0 _ _ _))))
        refine wpQuiet_nil ?_
        intro _ hw'
        obtain ⟨nq, hw''⟩ := hw'
        subst hw''
        go_wp2_with fail
        have hS2 := (hS.drewN nq).at1
        exact ⟨⟨b + 1, by omega, by omega, (hS.drewN _).at1, (hA.drewN _).setCell (.inl (by simp)) _, HK⟩, by (rw [((hS.drewN _).at1).atOf, hat]; omega)⟩
    · clear hnd
      obtain rfl : b = b' := by
        have := HG.out
        rw [whN_no ?_ (by rw [HL.out]; exact hb)] at this
        · exact this
        · cases no
          · by_cases hlt : b < s.size
            · right
              cases hd : owLabel ((s[b]'hlt).toNat : Int)
              · unfold pkC
                rw [if_pos (by simp [pkB]; omega), ← getElem_bt hlt]; exact hd
              · exact absurd ⟨rfl, hlt, hd⟩ hgo
            · left; simp [pkB]; omega
          · left; rfl
      clear HG
      have hE := HE.out
      obtain ⟨q, hq⟩ : ∃ q, ((b : Int) == (a : Int)) = q := ⟨_, rfl⟩
      have hqn : (b == a) = q := by rw [← hq]; apply bcl; simp; omega
      rw [hqn] at hE
      clear hqn HE
      cases no
      case true =>
        rw [Bool.true_or] at hE
        subst hE
        clear hgo
        go_wp2_with fail
        refine wp_region_quiet_lit (by kernel_rfl) (by kernel_rfl) ?_
        simp only [List.append]
        repeat (go_big_quiet_step (fail))
        refine wpQuiet_nil ?_
        intro _ hw'
        obtain ⟨nq, hw''⟩ := hw'
        subst hw''
        cases q
        · go_wp2_with fail
          go_quiet (fail)
          go_wp2_with fail
          go_ret
          exact ⟨rfl, (hS.drewN _).drewN _, (hA.drewN _).drewN _⟩
        · go_wp2_with fail
          go_quiet (fail)
          go_wp2_with fail
          go_ret
          exact ⟨rfl, ((hS.drewN _).no1 true).drewN _, ((hA.drewN _).setCell (.inl (by simp)) _).drewN _⟩
      case false =>
        rw [Bool.false_or] at hE
        subst hE
        by_cases hlt : b < s.size
        case neg =>
          have hd2 : decide ((b : Int) < s.size) = false := decide_eq_false (by omega)
          clear hgo
          go_wp2_with fail
          refine wp_region_quiet_lit (by kernel_rfl) (by kernel_rfl) ?_
          simp only [List.append]
          repeat (go_big_quiet_step (fail))
          refine wpQuiet_nil ?_
          intro _ hw'
          obtain ⟨nq, hw''⟩ := hw'
          subst hw''
          cases n'
          · go_wp2_with fail
            go_quiet (fail)
            go_wp2_with fail
            go_ret
            exact ⟨rfl, (hS.drewN _).drewN _, (hA.drewN _).drewN _⟩
          · go_wp2_with fail
            go_quiet (fail)
            go_wp2_with fail
            go_ret
            exact ⟨rfl, ((hS.drewN _).no1 true).drewN _, ((hA.drewN _).setCell (.inl (by simp)) _).drewN _⟩
        case pos =>
          have hd2 : decide ((b : Int) < s.size) = true := decide_eq_true (by omega)
          have hj1 : (b : Int) < s.size := by omega
          have hd : owLabel ((s[b]'hlt).toNat : Int) = false := by
            cases hd : owLabel ((s[b]'hlt).toNat : Int)
            · rfl
            · exact absurd ⟨rfl, hlt, hd⟩ hgo
          clear hgo
          go_wp2_with fail
          refine wp_region_quiet_lit (by kernel_rfl) (by kernel_rfl) ?_
          simp only [List.append]
          repeat (go_big_quiet_step ((go_at_call 47; exact Calls.quiet_of_same (in3C hd (by omega) (by have := (s[b]'hlt).toNat_lt; omega) _ _))))
          refine wpQuiet_nil ?_
          intro _ hw'
          obtain ⟨nq, hw''⟩ := hw'
          subst hw''
          cases n'
          · go_wp2_with fail
            go_quiet (fail)
            go_wp2_with fail
            go_ret
            exact ⟨rfl, (hS.drewN _).drewN _, (hA.drewN _).drewN _⟩
          · go_wp2_with fail
            go_quiet (fail)
            go_wp2_with fail
            go_ret
            exact ⟨rfl, ((hS.drewN _).no1 true).drewN _, ((hA.drewN _).setCell (.inl (by simp)) _).drewN _⟩
end Go.Proofs.YtdngieihlcknmaaDoor
