/- The reference's Run, the first byte no digit: for any text. -/
import Derived.Test.YtdngieihlcknmaaDoorRefO1
namespace Go.Proofs.YtdngieihlcknmaaDoor
set_option linter.unusedVariables false
set_option linter.unusedSimpArgs false
open Go.RowKit
set_option maxRecDepth 100000 in
set_option maxHeartbeats 12800000 in
theorem run0_name (g : Nat) (s : ByteArray) (a : Nat) (w : World) (h : Sr w g s a false) (ha : a < s.size) (hs : s.size ≤ 1048576) (hd : digB ((s[a]'ha).toNat : Int) = true) :
    Calls Tryd.prog 34 #[.pointer (some ⟨g, 0, none⟩), .int .i64 2, .string ⟨#[]⟩, .bool true] w fun e w' => e = .returned (.string ByteArray.empty) ∧ Sr w' g s a true ∧ Aw [g] w w' := by
  obtain ⟨⟨c0, c1, c2⟩, f1, f2⟩ := h.facts
  have hP : owName ((s[a]'ha).toNat : Int) = true := by simp [owName, hd]
  have ha0 : (0 : Int) ≤ a := by omega
  have hj1 : (a : Int) < s.size := by omega
  have hle : (a : Int) ≤ a := Int.le_refl _
  have hle2 : (a : Int) ≤ s.size := by omega
  have hd2 : decide ((a : Int) < s.size) = true := decide_eq_true (by omega)
  have hq2 : ((a : Int) == (a : Int)) = true := by simp
  have hx0 : (0 : Int) ≤ ((s[a]'ha).toNat : Int) := by omega
  have hx1 : ((s[a]'ha).toNat : Int) ≤ 255 := by have := (s[a]'ha).toNat_lt; omega
  go_enter Tryd.func34, Tryd.ntmps34
  go_wp2_with fail
  refine wp_loop_rounds 1 ?_
  rw [rounds_succ]
  go_wp2_with fail
  refine wp_region_quiet_lit (by kernel_rfl) (by kernel_rfl) ?_
  try simp only [List.append]
  repeat (go_big_quiet_step (first
    | (go_at_call 47; with_reducible exact Calls.quiet_of_same (in2C hP hx0 hx1 _ _))
    | (go_at_call 47; with_reducible exact Calls.quiet_of_same (digC hd _ _))
    | (go_at_call 48; with_reducible exact Calls.quiet_of_same (has0 _ _ _))))
  refine wpQuiet_nil ?_
  intro _ hw'
  obtain ⟨nq, hw''⟩ := hw'
  subst hw''
  go_wp2_with fail
  go_quiet (fail)
  go_wp2_with fail
  go_ret
  exact ⟨rfl, ((h.drewN _).no1 true).drewN _, (((Aw.refl _ _).drewN _).setCell (.inl (by simp)) _).drewN _⟩
theorem run_nm_name (g : Nat) (s : ByteArray) (a : Nat) (no : Bool) (b' : Nat) (n' : Bool) (w : World) (h : Sr w g s a no) (ha : a ≤ s.size) (hs : s.size ≤ 1048576) (hR : nmS s.data.toList owName a no = (b', n')) :
    Calls Tryd.prog 34 #[.pointer (some ⟨g, 0, none⟩), .int .i64 2, .string ⟨#[]⟩, .bool true] w fun e w' => e = .returned (.string (mkS (cutL s.data.toList a b'))) ∧ Sr w' g s b' n' ∧ Aw [g] w w' := by
  rw [← ext_cut]
  have hL : s.data.toList.length = s.size := by simp
  by_cases hd : no = false ∧ ∃ h : a < s.size, digB ((s[a]'h).toNat : Int) = true
  · obtain ⟨rfl, hlt, hd⟩ := hd
    have e : nmS s.data.toList owName a false = (a, true) := by
      unfold nmS someS pkB
      rw [← getElem_bt hlt, hd]
      simp [hlt]
    rw [e] at hR
    injection hR with e1 e2
    subst e1 e2
    rw [show s.extract a a = ByteArray.empty by simp]
    exact run0_name g s a w h hlt hs hd
  · have hnd : no = false → ∀ h : a < s.size, digB ((s[a]'h).toNat : Int) = false := fun h1 h2 => by
      cases k : digB ((s[a]'h2).toNat : Int)
      · rfl
      · exact absurd ⟨h1, h2, k⟩ hd
    refine run1_name g s a no b' n' w h ha hs hnd ?_
    rw [← hR]
    unfold nmS
    cases no
    · by_cases h2 : a < s.size
      · rw [← getElem_bt h2, hnd rfl h2]; simp
      · rw [pkB_end (by omega)]; rfl
    · rfl
set_option maxRecDepth 100000 in
set_option maxHeartbeats 12800000 in
theorem run0_label (g : Nat) (s : ByteArray) (a : Nat) (w : World) (h : Sr w g s a false) (ha : a < s.size) (hs : s.size ≤ 1048576) (hd : digB ((s[a]'ha).toNat : Int) = true) :
    Calls Tryd.prog 34 #[.pointer (some ⟨g, 0, none⟩), .int .i64 3, .string ⟨#[]⟩, .bool true] w fun e w' => e = .returned (.string ByteArray.empty) ∧ Sr w' g s a true ∧ Aw [g] w w' := by
  obtain ⟨⟨c0, c1, c2⟩, f1, f2⟩ := h.facts
  have hP : owLabel ((s[a]'ha).toNat : Int) = true := by simp [owLabel, hd]
  have ha0 : (0 : Int) ≤ a := by omega
  have hj1 : (a : Int) < s.size := by omega
  have hle : (a : Int) ≤ a := Int.le_refl _
  have hle2 : (a : Int) ≤ s.size := by omega
  have hd2 : decide ((a : Int) < s.size) = true := decide_eq_true (by omega)
  have hq2 : ((a : Int) == (a : Int)) = true := by simp
  have hx0 : (0 : Int) ≤ ((s[a]'ha).toNat : Int) := by omega
  have hx1 : ((s[a]'ha).toNat : Int) ≤ 255 := by have := (s[a]'ha).toNat_lt; omega
  go_enter Tryd.func34, Tryd.ntmps34
  go_wp2_with fail
  refine wp_loop_rounds 1 ?_
  rw [rounds_succ]
  go_wp2_with fail
  refine wp_region_quiet_lit (by kernel_rfl) (by kernel_rfl) ?_
  try simp only [List.append]
  repeat (go_big_quiet_step (first
    | (go_at_call 47; with_reducible exact Calls.quiet_of_same (in3C hP hx0 hx1 _ _))
    | (go_at_call 47; with_reducible exact Calls.quiet_of_same (digC hd _ _))
    | (go_at_call 48; with_reducible exact Calls.quiet_of_same (has0 _ _ _))))
  refine wpQuiet_nil ?_
  intro _ hw'
  obtain ⟨nq, hw''⟩ := hw'
  subst hw''
  go_wp2_with fail
  go_quiet (fail)
  go_wp2_with fail
  go_ret
  exact ⟨rfl, ((h.drewN _).no1 true).drewN _, (((Aw.refl _ _).drewN _).setCell (.inl (by simp)) _).drewN _⟩
theorem run_nm_label (g : Nat) (s : ByteArray) (a : Nat) (no : Bool) (b' : Nat) (n' : Bool) (w : World) (h : Sr w g s a no) (ha : a ≤ s.size) (hs : s.size ≤ 1048576) (hR : nmS s.data.toList owLabel a no = (b', n')) :
    Calls Tryd.prog 34 #[.pointer (some ⟨g, 0, none⟩), .int .i64 3, .string ⟨#[]⟩, .bool true] w fun e w' => e = .returned (.string (mkS (cutL s.data.toList a b'))) ∧ Sr w' g s b' n' ∧ Aw [g] w w' := by
  rw [← ext_cut]
  have hL : s.data.toList.length = s.size := by simp
  by_cases hd : no = false ∧ ∃ h : a < s.size, digB ((s[a]'h).toNat : Int) = true
  · obtain ⟨rfl, hlt, hd⟩ := hd
    have e : nmS s.data.toList owLabel a false = (a, true) := by
      unfold nmS someS pkB
      rw [← getElem_bt hlt, hd]
      simp [hlt]
    rw [e] at hR
    injection hR with e1 e2
    subst e1 e2
    rw [show s.extract a a = ByteArray.empty by simp]
    exact run0_label g s a w h hlt hs hd
  · have hnd : no = false → ∀ h : a < s.size, digB ((s[a]'h).toNat : Int) = false := fun h1 h2 => by
      cases k : digB ((s[a]'h2).toNat : Int)
      · rfl
      · exact absurd ⟨h1, h2, k⟩ hd
    refine run1_label g s a no b' n' w h ha hs hnd ?_
    rw [← hR]
    unfold nmS
    cases no
    · by_cases h2 : a < s.size
      · rw [← getElem_bt h2, hnd rfl h2]; simp
      · rw [pkB_end (by omega)]; rfl
    · rfl
end Go.Proofs.YtdngieihlcknmaaDoor
