/- The walks of package scan: numbers, scalars, signs behind backslashes. -/
import Derived.Test.YtoplengednoldaaGreatDoorScanB
namespace Go.Proofs.YtoplengednoldaaGreatDoor
set_option linter.unusedVariables false
set_option linter.unusedSimpArgs false
open Go.RowKit
theorem numS_eq (l : List UInt8) (a : Nat) (no : Bool) : numS l a no = someS l digB (takeA l a no 45) no := by
  cases no
  · rfl
  · simp [numS, someS, takeA, isB, pkB]
set_option maxHeartbeats 1600000 in
theorem whole_any (g : Nat) (s : ByteArray) (a : Nat) (no : Bool) (b' : Nat) (n' : Bool) (w : World) (h : Sc w g s a no) (ha : a ≤ s.size) (hs : s.size ≤ 4611686018427387904) (hR : numS s.data.toList a no = (b', n')) :
    Calls Tryz.prog 79 #[.pointer (some ⟨g, 0, none⟩)] w fun e w' => e = .returned (.string (s.extract a b')) ∧ Sc w' g s b' n' ∧ Aw [g] w w' := by
  have hL : s.data.toList.length = s.size := by simp
  have hle := takeA_le s.data.toList a no 45 (by rw [hL]; exact ha)
  have hle2 := numS_le s.data.toList a no (by rw [hL]; exact ha)
  rw [numS_eq] at hR
  rw [numS_eq, hR, hL] at hle2
  rw [hL] at hle
  have kT := takes_any g s a no 45
  obtain ⟨c, hc⟩ : ∃ c, takeA s.data.toList a no 45 = c := ⟨_, rfl⟩
  rw [hc] at kT hR hle
  have kS := fun w h => some_dig g s c no b' n' w h hle.2 hs hR
  have ha0 : (0 : Int) ≤ a := by omega
  have hab : (a : Int) ≤ b' := by have := hle2.1; simp only at this; omega
  have hbs : (b' : Int) ≤ s.size := by have := hle2.2; simp only at this; omega
  obtain ⟨⟨c0, c1, c2⟩, f1, f2⟩ := h.facts
  clear hR hc hL hle2
  go_enter Tryz.func79, Tryz.ntmps79
  go_wp2_with (first
    | (go_at_call 75; refine (kT _ h ha hs).mono ?_; rintro e w1 ⟨rfl, h1, hA1⟩)
    | (go_at_call 135; refine (kS _ h1).mono ?_; rintro e w2 ⟨rfl, h2, hA2⟩; obtain ⟨⟨d0, d1, d2⟩, g1, g2⟩ := h2.facts))
  go_quiet (fail)
  go_wp2_with fail
  go_ret
  exact ⟨rfl, h2.drewN _, (hA1.trans hA2).drewN _⟩
set_option maxHeartbeats 1600000 in
theorem dec_any (g : Nat) (s : ByteArray) (a : Nat) (no : Bool) (b' : Nat) (n' : Bool) (w : World) (h : Sc w g s a no) (ha : a ≤ s.size) (hs : s.size ≤ 4611686018427387904) (hR : decS s.data.toList a no = (b', n')) :
    Calls Tryz.prog 78 #[.pointer (some ⟨g, 0, none⟩)] w fun e w' => e = .returned (.string (s.extract a b')) ∧ Sc w' g s b' n' ∧ Aw [g] w w' := by
  have hL : s.data.toList.length = s.size := by simp
  have hle2 := decS_le s.data.toList a no (by rw [hL]; exact ha)
  have hle := numS_le s.data.toList a no (by rw [hL]; exact ha)
  rw [hR, hL] at hle2
  rw [hL] at hle
  have hab : (a : Int) ≤ b' := by have := hle2.1; simp only at this; omega
  have hbs : (b' : Int) ≤ s.size := by have := hle2.2; simp only at this; omega
  have ha0 : (0 : Int) ≤ a := by omega
  obtain ⟨c, n1, hc⟩ : ∃ c n1, numS s.data.toList a no = (c, n1) := ⟨_, _, rfl⟩
  have kW := fun w h => whole_any g s a no c n1 w h ha hs hc
  unfold decS at hR
  rw [hc] at hR hle
  simp only at hR hle
  have kT := takes_any g s c n1 46
  obtain ⟨⟨c0, c1, c2⟩, f1, f2⟩ := h.facts
  cases n1
  · simp only [Bool.false_eq_true, if_false] at hR
    unfold takeA at kT
    cases hq : isB s.data.toList c false 46
    · rw [hq] at kT hR
      simp only [Bool.false_eq_true, if_false] at kT hR
      obtain ⟨rfl, rfl⟩ : c = b' ∧ false = n' := by injection hR with e1 e2; exact ⟨e1, e2⟩
      clear hR hc hL hq hle2
      go_enter Tryz.func78, Tryz.ntmps78
      go_wp2_with (first
        | (go_at_call 79; refine (kW _ h).mono ?_; rintro e w1 ⟨rfl, h1, hA1⟩)
        | (go_at_call 75; refine (kT _ h1 hle.2 hs).mono ?_; rintro e w2 ⟨rfl, h2, hA2⟩; obtain ⟨⟨d0, d1, d2⟩, g1, g2⟩ := h2.facts))
      go_quiet (fail)
      go_wp2_with fail
      go_ret
      exact ⟨rfl, h2.drewN _, (hA1.trans hA2).drewN _⟩
    · have hlt := (isB_lt hq).1
      rw [hL] at hlt
      rw [hq] at kT hR
      simp only [if_true] at kT hR
      have kS := fun w h => some_dig g s (c + 1) false b' n' w h hlt hs hR
      clear hR hc hL hq hle2
      go_enter Tryz.func78, Tryz.ntmps78
      go_wp2_with (first
        | (go_at_call 79; refine (kW _ h).mono ?_; rintro e w1 ⟨rfl, h1, hA1⟩)
        | (go_at_call 75; refine (kT _ h1 hle.2 hs).mono ?_; rintro e w2 ⟨rfl, h2, hA2⟩)
        | (go_at_call 135; refine (kS _ h2).mono ?_; rintro e w3 ⟨rfl, h3, hA3⟩; obtain ⟨⟨d0, d1, d2⟩, g1, g2⟩ := h3.facts))
      go_quiet (fail)
      go_wp2_with fail
      go_ret
      exact ⟨rfl, h3.drewN _, ((hA1.trans hA2).trans hA3).drewN _⟩
  · simp only [if_true] at hR
    obtain ⟨rfl, rfl⟩ : c = b' ∧ true = n' := by injection hR with e1 e2; exact ⟨e1, e2⟩
    rw [show takeA s.data.toList c true 46 = c from rfl, show isB s.data.toList c true 46 = false from rfl] at kT
    clear hR hc hL hle2
    go_enter Tryz.func78, Tryz.ntmps78
    go_wp2_with (first
      | (go_at_call 79; refine (kW _ h).mono ?_; rintro e w1 ⟨rfl, h1, hA1⟩)
      | (go_at_call 75; refine (kT _ h1 hle.2 hs).mono ?_; rintro e w2 ⟨rfl, h2, hA2⟩; obtain ⟨⟨d0, d1, d2⟩, g1, g2⟩ := h2.facts))
    go_quiet (fail)
    go_wp2_with fail
    go_ret
    exact ⟨rfl, h2.drewN _, (hA1.trans hA2).drewN _⟩
theorem ext_bytes (s : ByteArray) (a b : Nat) : (s.extract a b).data.toList = (s.data.toList.drop a).take (b - a) := by
  rw [ByteArray.data_extract, Array.toList_extract, List.extract_eq_take_drop]
end Go.Proofs.YtoplengednoldaaGreatDoor
