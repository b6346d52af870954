/- The walk of the reference's Run for any class of bytes but some. -/
import Derived.Test.YtpknjngjkdnpiaaGreatDoorRefB
import Derived.Test.YtpknjngjkdnpiaaGreatDoorMgB
namespace Go.Proofs.YtpknjngjkdnpiaaGreatDoor
set_option linter.unusedVariables false
set_option linter.unusedSimpArgs false
open Go.RowKit
set_option maxRecDepth 100000 in
set_option maxHeartbeats 3200000 in
theorem run_cls (cls : Int) (but : ByteArray) (P Q : Int → Bool) (hP : ∀ c, P c = (Q c && !hasB but.data.toList c)) (hbs : but.size ≤ 4611686018427387904) (kIn : ∀ c W, 0 ≤ c → c ≤ 255 → Calls Tryz.prog 70 #[.int .u8 c, .int .i64 cls] W fun e w' => e = .returned (.bool (Q c)) ∧ w' = W) (g : Nat) (s : ByteArray) (a : Nat) (no : Bool) (b' : Nat) (n' : Bool) (w : World) (h : Sr w g s a no) (ha : a ≤ s.size) (hs : s.size ≤ 1048576) (hR : someS s.data.toList P a no = (b', n')) :
    Calls Tryz.prog 40 #[.pointer (some ⟨g, 0, none⟩), .int .i64 cls, .string but, .bool false] w fun e w' => e = .returned (.string (s.extract a b')) ∧ Sr w' g s b' n' ∧ Aw [g] w w' := by
  have HL : Hid (s.data.toList.length = s.size) := Lib.hid (by simp)
  have hw : whN s.data.toList P a no = b' := by
    unfold whN; unfold someS at hR
    cases no
    · simp only [Bool.false_eq_true, if_false] at hR ⊢; injection hR
    · simp only [if_true] at hR ⊢; injection hR
  have hle := whN_le s.data.toList P a no (by rw [HL.out]; exact ha)
  rw [hw, HL.out] at hle
  have hend : n' = (no || b' == a) := by
    unfold someS at hR
    cases no
    · simp only [Bool.false_eq_true, if_false] at hR
      injection hR with e1 e2
      rw [← e2, e1]; rfl
    · simp only [if_true] at hR
      injection hR with e1 e2
      rw [← e2]; rfl
  have HR := Lib.hid hw
  have HE := Lib.hid hend
  have ha0 : (0 : Int) ≤ a := by omega
  have hle1 : (a : Int) ≤ b' := by omega
  have hle2 : (b' : Int) ≤ s.size := by omega
  clear hR hw hend
  obtain ⟨⟨c0, c1, c2⟩, f1, f2⟩ := h.facts
  go_enter Tryz.func40, Tryz.ntmps40
  go_wp2_with fail
  go_loopw [14] (fun _ wr => ∃ b : Nat, a ≤ b ∧ b ≤ s.size ∧ Sr wr g s b no ∧ Aw [g] w wr ∧ Hid (whN s.data.toList P b no = b')) (fun _ wr => s.size - atOf wr g)
  case atStart => exact ⟨a, Nat.le_refl _, ha, h, Aw.refl _ _, HR⟩
  case round =>
    obtain ⟨b, hab, hb, hS, hA, HG⟩ := hrel
    clear HR h c0 c1 c2 f1 f2
    obtain ⟨⟨c0, c1, c2⟩, f1, f2⟩ := hS.facts
    have hat := hS.atOf
    have hj0 : (0 : Int) ≤ b := by omega
    by_cases hgo : no = false ∧ ∃ h : b < s.size, P ((s[b]'h).toNat : Int) = true
    · obtain ⟨rfl, hlt, hd⟩ := hgo
      have hd2 : decide ((b : Int) < s.size) = true := decide_eq_true (by omega)
      have hj1 : (b : Int) < s.size := by omega
      have HK : Hid (whN s.data.toList P (b + 1) false = b') := Lib.hid (by
        rw [← HG.out]
        refine (whN_yes (by simp [pkB]; omega) ?_).1.symm
        unfold pkC
        rw [if_pos (by simp [pkB]; omega), ← getElem_bt hlt]; exact hd)
      have hd' := hd
      rw [hP, Bool.and_eq_true, Bool.not_eq_true'] at hd'
      have c255 : ((s[b]'hlt).toNat : Int) ≤ 255 := by have := (s[b]'hlt).toNat_lt; omega
      have kI1 := fun W => kIn ((s[b]'hlt).toNat : Int) W (by omega) c255
      rw [hd'.1] at kI1
      have kH1 := fun W => has17_any but ((s[b]'hlt).toNat : Int) W hbs
      rw [hd'.2] at kH1
      clear HG hd' hP kIn
      go_wp2_with fail
      refine wp_region_quiet_lit (by kernel_rfl) (by kernel_rfl) ?_
      simp only [List.append]
      repeat (go_big_quiet_step (first
        | (go_at_call 70; exact Calls.quiet_of_same (kI1 _))
        | (go_at_call 71; exact Calls.quiet_of_same (kH1 _))))
      refine wpQuiet_nil ?_
      intro _ hw'
      obtain ⟨nq, hw''⟩ := hw'
      subst hw''
      go_wp2_with fail
      have hS2 := (hS.drewN nq).at1
      exact ⟨⟨b + 1, by omega, by omega, (hS.drewN _).at1, (hA.drewN _).setCell (.inl (by simp)) _, HK⟩, by (rw [((hS.drewN _).at1).atOf, hat]; omega)⟩
    · obtain rfl : b = b' := by
        have := HG.out
        rw [whN_no ?_ (by rw [HL.out]; exact hb)] at this
        · exact this
        · cases no
          · by_cases hlt : b < s.size
            · right
              cases hd : P ((s[b]'hlt).toNat : Int)
              · unfold pkC
                rw [if_pos (by simp [pkB]; omega), ← getElem_bt hlt]; exact hd
              · exact absurd ⟨rfl, hlt, hd⟩ hgo
            · left; simp [pkB]; omega
          · left; rfl
      clear HG
      have hE := HE.out
      obtain ⟨q, hq⟩ : ∃ q, ((b : Int) == (a : Int)) = q := ⟨_, rfl⟩
      have hqn : (b == a) = q := by rw [← hq]; apply bcl; simp; omega
      rw [hqn] at hE
      clear hqn HE
      cases no
      case true =>
        rw [Bool.true_or] at hE
        subst hE
        clear hgo
        go_wp2_with fail
        refine wp_region_quiet_lit (by kernel_rfl) (by kernel_rfl) ?_
        simp only [List.append]
        repeat (go_big_quiet_step (fail))
        refine wpQuiet_nil ?_
        intro _ hw'
        obtain ⟨nq, hw''⟩ := hw'
        subst hw''
        cases q
        · go_wp2_with fail
          go_quiet (fail)
          go_wp2_with fail
          go_ret
          exact ⟨rfl, (hS.drewN _).drewN _, (hA.drewN _).drewN _⟩
        · go_wp2_with fail
          go_quiet (fail)
          go_wp2_with fail
          go_ret
          exact ⟨rfl, ((hS.drewN _).no1 true).drewN _, ((hA.drewN _).setCell (.inl (by simp)) _).drewN _⟩
      case false =>
        rw [Bool.false_or] at hE
        subst hE
        by_cases hlt : b < s.size
        case neg =>
          have hd2 : decide ((b : Int) < s.size) = false := decide_eq_false (by omega)
          clear hgo
          go_wp2_with fail
          refine wp_region_quiet_lit (by kernel_rfl) (by kernel_rfl) ?_
          simp only [List.append]
          repeat (go_big_quiet_step (fail))
          refine wpQuiet_nil ?_
          intro _ hw'
          obtain ⟨nq, hw''⟩ := hw'
          subst hw''
          cases n'
          · go_wp2_with fail
            go_quiet (fail)
            go_wp2_with fail
            go_ret
            exact ⟨rfl, (hS.drewN _).drewN _, (hA.drewN _).drewN _⟩
          · go_wp2_with fail
            go_quiet (fail)
            go_wp2_with fail
            go_ret
            exact ⟨rfl, ((hS.drewN _).no1 true).drewN _, ((hA.drewN _).setCell (.inl (by simp)) _).drewN _⟩
        case pos =>
          have hd2 : decide ((b : Int) < s.size) = true := decide_eq_true (by omega)
          have hj1 : (b : Int) < s.size := by omega
          have hd : P ((s[b]'hlt).toNat : Int) = false := by
            cases hd : P ((s[b]'hlt).toNat : Int)
            · rfl
            · exact absurd ⟨rfl, hlt, hd⟩ hgo
          have c255 : ((s[b]'hlt).toNat : Int) ≤ 255 := by have := (s[b]'hlt).toNat_lt; omega
          have kI1 := fun W => kIn ((s[b]'hlt).toNat : Int) W (by omega) c255
          have kH1 := fun W => has17_any but ((s[b]'hlt).toNat : Int) W hbs
          rw [hP] at hd
          clear hgo hP kIn
          cases hq1 : Q ((s[b]'hlt).toNat : Int)
          case false =>
            rw [hq1] at kI1
            clear hd hq1 kH1
            go_wp2_with fail
            refine wp_region_quiet_lit (by kernel_rfl) (by kernel_rfl) ?_
            simp only [List.append]
            repeat (go_big_quiet_step ((go_at_call 70; exact Calls.quiet_of_same (kI1 _))))
            refine wpQuiet_nil ?_
            intro _ hw'
            obtain ⟨nq, hw''⟩ := hw'
            subst hw''
            cases n'
            · go_wp2_with fail
              go_quiet (fail)
              go_wp2_with fail
              go_ret
              exact ⟨rfl, (hS.drewN _).drewN _, (hA.drewN _).drewN _⟩
            · go_wp2_with fail
              go_quiet (fail)
              go_wp2_with fail
              go_ret
              exact ⟨rfl, ((hS.drewN _).no1 true).drewN _, ((hA.drewN _).setCell (.inl (by simp)) _).drewN _⟩
          case true =>
            rw [hq1] at kI1 hd
            rw [Bool.true_and, Bool.not_eq_false'] at hd
            rw [hd] at kH1
            clear hd hq1
            go_wp2_with fail
            refine wp_region_quiet_lit (by kernel_rfl) (by kernel_rfl) ?_
            simp only [List.append]
            repeat (go_big_quiet_step (first | (go_at_call 70; exact Calls.quiet_of_same (kI1 _)) | (go_at_call 71; exact Calls.quiet_of_same (kH1 _))))
            refine wpQuiet_nil ?_
            intro _ hw'
            obtain ⟨nq, hw''⟩ := hw'
            subst hw''
            cases n'
            · go_wp2_with fail
              go_quiet (fail)
              go_wp2_with fail
              go_ret
              exact ⟨rfl, (hS.drewN _).drewN _, (hA.drewN _).drewN _⟩
            · go_wp2_with fail
              go_quiet (fail)
              go_wp2_with fail
              go_ret
              exact ⟨rfl, ((hS.drewN _).no1 true).drewN _, ((hA.drewN _).setCell (.inl (by simp)) _).drewN _⟩
set_option maxHeartbeats 1600000 in
theorem in5_any (c : Int) (w : World) (h0 : 0 ≤ c) (h1 : c ≤ 255) : Calls Tryz.prog 70 #[.int .u8 c, .int .i64 5] w fun e w' => e = .returned (.bool (stName c)) ∧ w' = w := by
  go_enter Tryz.func70, Tryz.ntmps70
  go_wp2_with fail
  all_goals go_ret
  all_goals refine ⟨ret_bool (bcl ?_), rfl⟩
  all_goals (simp [stName, letB, digB] <;> omega)
def visB (c : Int) : Bool := decide (33 ≤ c) && decide (c ≤ 126)
set_option maxHeartbeats 1600000 in
theorem in6_any (c : Int) (w : World) (h0 : 0 ≤ c) (h1 : c ≤ 255) : Calls Tryz.prog 70 #[.int .u8 c, .int .i64 6] w fun e w' => e = .returned (.bool (visB c)) ∧ w' = w := by
  go_enter Tryz.func70, Tryz.ntmps70
  go_wp2_with fail
  all_goals go_ret
  all_goals refine ⟨ret_bool (bcl ?_), rfl⟩
  all_goals (simp [visB] <;> omega)
theorem stInk_vis (c : Int) : stInk c = (visB c && !hasB (⟨#[124]⟩ : ByteArray).data.toList c) := by
  apply bcl; simp [stInk, visB, hasB]; omega
theorem stValue_vis (c : Int) : stValue c = (visB c && !hasB (⟨#[44, 124]⟩ : ByteArray).data.toList c) := by
  apply bcl; simp [stValue, stInk, visB, hasB]; omega
theorem stName_dot (c : Int) : stName c = (stName c && !hasB (⟨#[]⟩ : ByteArray).data.toList c) := by
  simp [hasB]
end Go.Proofs.YtpknjngjkdnpiaaGreatDoor
