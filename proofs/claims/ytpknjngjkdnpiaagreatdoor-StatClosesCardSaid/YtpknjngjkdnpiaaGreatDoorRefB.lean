/- The walks of the reference's scanner: words, digits, numbers. -/
import Derived.Test.YtpknjngjkdnpiaaGreatDoorRefA
import Derived.Test.YtpknjngjkdnpiaaGreatDoorLineDfa
namespace Go.Proofs.YtpknjngjkdnpiaaGreatDoor
set_option linter.unusedVariables false
set_option linter.unusedSimpArgs false
open Go.RowKit
theorem word_step2 (l t : List UInt8) (k b : Nat) (h : k < t.length) : wordS l (t.drop k) b false = if isB l b false (bt t k) then wordS l (t.drop (k + 1)) (b + 1) false else (b, true) := by
  rw [List.drop_eq_getElem_cons h]
  conv => lhs; unfold wordS
  simp only [Bool.false_eq_true, if_false]
  rw [← bt_get h]
set_option maxRecDepth 100000 in
set_option maxHeartbeats 3200000 in
theorem lit_any (g : Nat) (s t : ByteArray) (a : Nat) (no : Bool) (b' : Nat) (n' : Bool) (w : World) (h : Sr w g s a no) (ha : a ≤ s.size) (hs : s.size ≤ 1048576) (ht : t.size ≤ 1048576) (hR : wordS s.data.toList t.data.toList a no = (b', n')) :
    Calls Tryz.prog 41 #[.pointer (some ⟨g, 0, none⟩), .string t] w fun e w' => e = .returned (.tuple #[]) ∧ Sr w' g s b' n' ∧ Aw [g] w w' := by
  have HL : Hid (s.data.toList.length = s.size) := Lib.hid (by simp)
  have HT : Hid (t.data.toList.length = t.size) := Lib.hid (by simp)
  have H0 : Hid (wordS s.data.toList (t.data.toList.drop 0) a no = (b', n')) := Lib.hid (by simpa using hR)
  clear hR
  go_enter Tryz.func41, Tryz.ntmps41
  go_wp2_with fail
  go_loopw [4] (fun i wr => ∃ (k b : Nat) (nb : Bool), k ≤ t.size ∧ b ≤ s.size ∧ i = .int .i64 k ∧ Sr wr g s b nb ∧ Aw [g] w wr ∧ Hid (wordS s.data.toList (t.data.toList.drop k) b nb = (b', n'))) (fun i _ => t.size - (intOf i).toNat)
  case atStart => exact ⟨0, a, no, by omega, ha, rfl, h, Aw.refl _ _, H0⟩
  case round =>
    clear H0
    obtain ⟨k, b, nb, hk, hb, rfl, hS, hA, HK⟩ := hrel
    obtain ⟨⟨c0, c1, c2⟩, f1, f2⟩ := hS.facts
    by_cases hlt : k < t.size
    case neg =>
      have hd : decide ((k : Int) < t.size) = false := decide_eq_false (by omega)
      obtain ⟨rfl, rfl⟩ : b = b' ∧ nb = n' := by
        have := HK.out
        rw [List.drop_of_length_le (by rw [HT.out]; omega)] at this
        unfold wordS at this
        injection this with e1 e2; exact ⟨e1, e2⟩
      clear HK
      go_wp2_with fail
      go_end0
      exact ⟨rfl, hS, hA⟩
    case pos =>
      have hd : decide ((k : Int) < t.size) = true := decide_eq_true (by omega)
      have hi0 : (0 : Int) ≤ k := by omega
      have hi1 : (k : Int) < t.size := by omega
      cases nb
      case true =>
        obtain ⟨rfl, rfl⟩ : b = b' ∧ true = n' := by
          have := HK.out
          rw [wordS_no] at this
          injection this with e1 e2; exact ⟨e1, e2⟩
        clear HK
        go_wp2_with fail
        go_end0
        exact ⟨rfl, hS, hA⟩
      case false =>
        have hst := HK.out
        rw [word_step2 _ _ _ _ (by rw [HT.out]; exact hlt)] at hst
        clear HK
        by_cases hbs : b < s.size
        case neg =>
          have hd2 : decide ((s.size : Int) ≤ b) = true := decide_eq_true (by omega)
          have : isB s.data.toList b false (bt t.data.toList k) = false := isB_end (by rw [HL.out]; omega)
          rw [this, if_neg (by simp)] at hst
          obtain ⟨rfl, rfl⟩ : b = b' ∧ true = n' := by injection hst with e1 e2; exact ⟨e1, e2⟩
          clear hst this
          go_wp2_with fail
          go_quiet (fail)
          go_wp2_with fail
          refine bodyPost_ret (results_none rfl _ _ _) rfl ?_
          exact ⟨rfl, (hS.drewN _).no1 true, (hA.drewN _).setCell (.inl (by simp)) _⟩
        case pos =>
          have hd2 : decide ((s.size : Int) ≤ b) = false := decide_eq_false (by omega)
          have hj0 : (0 : Int) ≤ b := by omega
          have hj1 : (b : Int) < s.size := by omega
          have hq : isB s.data.toList b false (bt t.data.toList k) = (((s[b]'hbs).toNat : Int) == ((t[k]'hlt).toNat : Int)) := by
            unfold isB pkB
            rw [getElem_bt hbs, getElem_bt hlt]
            simp [hbs]
          rw [hq] at hst
          clear hq
          cases hc : (((s[b]'hbs).toNat : Int) == ((t[k]'hlt).toNat : Int))
          · rw [hc, if_neg (by simp)] at hst
            have hc2 : (((s[b]'hbs).toNat : Int) != ((t[k]'hlt).toNat : Int)) = true := by rw [bne, hc]; rfl
            obtain ⟨rfl, rfl⟩ : b = b' ∧ true = n' := by injection hst with e1 e2; exact ⟨e1, e2⟩
            clear hst
            go_wp2_with fail
            go_quiet (fail)
            go_wp2_with fail
            refine bodyPost_ret (results_none rfl _ _ _) rfl ?_
            exact ⟨rfl, (hS.drewN _).no1 true, (hA.drewN _).setCell (.inl (by simp)) _⟩
          · rw [hc, if_pos rfl] at hst
            have hc2 : (((s[b]'hbs).toNat : Int) != ((t[k]'hlt).toNat : Int)) = false := by rw [bne, hc]; rfl
            have HK := Lib.hid hst
            clear hst
            go_wp2_with fail
            go_quiet (fail)
            go_wp2_with fail
            exact ⟨⟨k + 1, b + 1, false, by omega, by omega, rfl, (hS.drewN _).at1, (hA.drewN _).setCell (.inl (by simp)) _, HK⟩, by (simp only [intOf]; omega)⟩
theorem digC {c : Int} {q : Bool} (h : digB c = q) (w : World) (n : Nat) : Calls Tryz.prog 70 #[.int .u8 c, .int .i64 0] (w.drewN n) fun e w' => e = .returned (.bool q) ∧ w' = w.drewN n := by
  rw [← h]; exact inDig_any c _
theorem has0 (c : Int) (w : World) (n : Nat) : Calls Tryz.prog 71 #[.string ⟨#[]⟩, .int .u8 c] (w.drewN n) fun e w' => e = .returned (.bool false) ∧ w' = w.drewN n := has17_any ⟨#[]⟩ c _ (by decide)
set_option maxRecDepth 100000 in
set_option maxHeartbeats 3200000 in
theorem run_dig (g : Nat) (s : ByteArray) (a : Nat) (no : Bool) (b' : Nat) (n' : Bool) (w : World) (h : Sr w g s a no) (ha : a ≤ s.size) (hs : s.size ≤ 1048576) (hR : someS s.data.toList digB a no = (b', n')) :
    Calls Tryz.prog 40 #[.pointer (some ⟨g, 0, none⟩), .int .i64 0, .string ⟨#[]⟩, .bool false] w fun e w' => e = .returned (.string (s.extract a b')) ∧ Sr w' g s b' n' ∧ Aw [g] w w' := by
  have HL : Hid (s.data.toList.length = s.size) := Lib.hid (by simp)
  have hw : whN s.data.toList digB a no = b' := by
    unfold whN; unfold someS at hR
    cases no
    · simp only [Bool.false_eq_true, if_false] at hR ⊢; injection hR
    · simp only [if_true] at hR ⊢; injection hR
  have hle := whN_le s.data.toList digB a no (by rw [HL.out]; exact ha)
  rw [hw, HL.out] at hle
  have hend : n' = (no || b' == a) := by
    unfold someS at hR
    cases no
    · simp only [Bool.false_eq_true, if_false] at hR
      injection hR with e1 e2
      rw [← e2, e1]; rfl
    · simp only [if_true] at hR
      injection hR with e1 e2
      rw [← e2]; rfl
  have HR := Lib.hid hw
  have HE := Lib.hid hend
  have ha0 : (0 : Int) ≤ a := by omega
  have hle1 : (a : Int) ≤ b' := by omega
  have hle2 : (b' : Int) ≤ s.size := by omega
  clear hR hw hend
  obtain ⟨⟨c0, c1, c2⟩, f1, f2⟩ := h.facts
  go_enter Tryz.func40, Tryz.ntmps40
  go_wp2_with fail
  go_loopw [14] (fun _ wr => ∃ b : Nat, a ≤ b ∧ b ≤ s.size ∧ Sr wr g s b no ∧ Aw [g] w wr ∧ Hid (whN s.data.toList digB b no = b')) (fun _ wr => s.size - atOf wr g)
  case atStart => exact ⟨a, Nat.le_refl _, ha, h, Aw.refl _ _, HR⟩
  case round =>
    obtain ⟨b, hab, hb, hS, hA, HG⟩ := hrel
    clear HR h c0 c1 c2 f1 f2
    obtain ⟨⟨c0, c1, c2⟩, f1, f2⟩ := hS.facts
    have hat := hS.atOf
    have hj0 : (0 : Int) ≤ b := by omega
    by_cases hgo : no = false ∧ ∃ h : b < s.size, digB ((s[b]'h).toNat : Int) = true
    · obtain ⟨rfl, hlt, hd⟩ := hgo
      have hd2 : decide ((b : Int) < s.size) = true := decide_eq_true (by omega)
      have hj1 : (b : Int) < s.size := by omega
      have HK : Hid (whN s.data.toList digB (b + 1) false = b') := Lib.hid (by
        rw [← HG.out]
        refine (whN_yes (by simp [pkB]; omega) ?_).1.symm
        unfold pkC
        rw [if_pos (by simp [pkB]; omega), ← getElem_bt hlt]; exact hd)
      clear HG
      go_wp2_with fail
      refine wp_region_quiet_lit (by kernel_rfl) (by kernel_rfl) ?_
      simp only [List.append]
      repeat (go_big_quiet_step (first
        | (go_at_call 70; exact Calls.quiet_of_same (digC hd _ _))
        | (go_at_call 71; exact Calls.quiet_of_same (has0 _ _ _))))
      refine wpQuiet_nil ?_
      intro _ hw'
      obtain ⟨nq, hw''⟩ := hw'
      subst hw''
      go_wp2_with fail
      have hS2 := (hS.drewN nq).at1
      exact ⟨⟨b + 1, by omega, by omega, (hS.drewN _).at1, (hA.drewN _).setCell (.inl (by simp)) _, HK⟩, by (rw [((hS.drewN _).at1).atOf, hat]; omega)⟩
    · obtain rfl : b = b' := by
        have := HG.out
        rw [whN_no ?_ (by rw [HL.out]; exact hb)] at this
        · exact this
        · cases no
          · by_cases hlt : b < s.size
            · right
              cases hd : digB ((s[b]'hlt).toNat : Int)
              · unfold pkC
                rw [if_pos (by simp [pkB]; omega), ← getElem_bt hlt]; exact hd
              · exact absurd ⟨rfl, hlt, hd⟩ hgo
            · left; simp [pkB]; omega
          · left; rfl
      clear HG
      have hE := HE.out
      obtain ⟨q, hq⟩ : ∃ q, ((b : Int) == (a : Int)) = q := ⟨_, rfl⟩
      have hqn : (b == a) = q := by rw [← hq]; apply bcl; simp; omega
      rw [hqn] at hE
      clear hqn HE
      cases no
      case true =>
        rw [Bool.true_or] at hE
        subst hE
        clear hgo
        go_wp2_with fail
        refine wp_region_quiet_lit (by kernel_rfl) (by kernel_rfl) ?_
        simp only [List.append]
        repeat (go_big_quiet_step (fail))
        refine wpQuiet_nil ?_
        intro _ hw'
        obtain ⟨nq, hw''⟩ := hw'
        subst hw''
        cases q
        · go_wp2_with fail
          go_quiet (fail)
          go_wp2_with fail
          go_ret
          exact ⟨rfl, (hS.drewN _).drewN _, (hA.drewN _).drewN _⟩
        · go_wp2_with fail
          go_quiet (fail)
          go_wp2_with fail
          go_ret
          exact ⟨rfl, ((hS.drewN _).no1 true).drewN _, ((hA.drewN _).setCell (.inl (by simp)) _).drewN _⟩
      case false =>
        rw [Bool.false_or] at hE
        subst hE
        by_cases hlt : b < s.size
        case neg =>
          have hd2 : decide ((b : Int) < s.size) = false := decide_eq_false (by omega)
          clear hgo
          go_wp2_with fail
          refine wp_region_quiet_lit (by kernel_rfl) (by kernel_rfl) ?_
          simp only [List.append]
          repeat (go_big_quiet_step (fail))
          refine wpQuiet_nil ?_
          intro _ hw'
          obtain ⟨nq, hw''⟩ := hw'
          subst hw''
          cases n'
          · go_wp2_with fail
            go_quiet (fail)
            go_wp2_with fail
            go_ret
            exact ⟨rfl, (hS.drewN _).drewN _, (hA.drewN _).drewN _⟩
          · go_wp2_with fail
            go_quiet (fail)
            go_wp2_with fail
            go_ret
            exact ⟨rfl, ((hS.drewN _).no1 true).drewN _, ((hA.drewN _).setCell (.inl (by simp)) _).drewN _⟩
        case pos =>
          have hd2 : decide ((b : Int) < s.size) = true := decide_eq_true (by omega)
          have hj1 : (b : Int) < s.size := by omega
          have hd : digB ((s[b]'hlt).toNat : Int) = false := by
            cases hd : digB ((s[b]'hlt).toNat : Int)
            · rfl
            · exact absurd ⟨rfl, hlt, hd⟩ hgo
          clear hgo
          go_wp2_with fail
          refine wp_region_quiet_lit (by kernel_rfl) (by kernel_rfl) ?_
          simp only [List.append]
          repeat (go_big_quiet_step ((go_at_call 70; exact Calls.quiet_of_same (digC hd _ _))))
          refine wpQuiet_nil ?_
          intro _ hw'
          obtain ⟨nq, hw''⟩ := hw'
          subst hw''
          cases n'
          · go_wp2_with fail
            go_quiet (fail)
            go_wp2_with fail
            go_ret
            exact ⟨rfl, (hS.drewN _).drewN _, (hA.drewN _).drewN _⟩
          · go_wp2_with fail
            go_quiet (fail)
            go_wp2_with fail
            go_ret
            exact ⟨rfl, ((hS.drewN _).no1 true).drewN _, ((hA.drewN _).setCell (.inl (by simp)) _).drewN _⟩
end Go.Proofs.YtpknjngjkdnpiaaGreatDoor
