/- The walks of the reference's Labels, of the law's short. -/
import Derived.Test.YtlolbpefeagclaaLabE
import Derived.Test.YtlolbpefeagclaaQuiet2
namespace Go.Proofs.Ytlolbpefeagclaa
open Go.RowKit
set_option maxRecDepth 100000 in
set_option maxHeartbeats 3200000 in
theorem refGood_any (A : Option Addr) (n cap : Nat) (L : List Lab) (w : World) (hl : IsRows labCell 2 w w.heap.size A n L) (hn : n ≤ 4611686018427387904) (hsz : ∀ x ∈ L, x.1.size ≤ 1048576 ∧ x.2.size ≤ 1048576) :
    Calls Try.prog 19 #[.slice A n cap] w fun e w' => e = .returned (.bool (goodL L)) ∧ Below w.heap.size w w' := by
  have hll := hl.1
  by_cases h8 : 8 < n
  · have hd8 : decide ((8 : Int) < n) = true := decide_eq_true (by omega)
    have HF : Hid (goodL L = false) := Lib.hid (by unfold goodL; rw [decide_eq_false (by omega), Bool.and_false])
    go_enter Try.func19, Try.ntmps19
    go_wp2_with fail
    go_ret
    exact ⟨ret_bool HF.out.symm, Below.refl _ _⟩
  have hd8 : decide ((8 : Int) < n) = false := decide_eq_false (by omega)
  go_enter Try.func19, Try.ntmps19
  go_wp2_with fail
  go_loopw [3] (fun i wr => Below w.heap.size w wr ∧ ∃ k : Nat, k ≤ n ∧ i = .int .i64 k ∧ Hid (goodTo L k = true)) (fun i _ => n - (intOf i).toNat)
  case atStart => exact ⟨Below.refl _ _, 0, by omega, rfl, Lib.hid rfl⟩
  case round =>
    obtain ⟨hbw, k, hk, rfl, HG⟩ := hrel
    by_cases hlt : k < n
    · have hdk : decide ((k : Int) < n) = true := decide_eq_true (by omega)
      have hk0 : (0 : Int) ≤ k := by omega
      have hk1 : (k : Int) < n := by omega
      obtain ⟨b, off, x, y, rfl, hgb, hx, e0, e1⟩ := lab_at (hl.below hbw) hlt
      obtain ⟨hxs, hys⟩ := hsz _ (List.mem_of_getElem? hx)
      have HX := Lib.hid (goodAt_of hx)
      have hnm := fun W => refName_any x W (Nat.le_trans hxs (by decide))
      have hvl := fun W => refValue_any y W (Nat.le_trans hys (by decide))
      generalize nameB x.data.toList = qn at hnm HX
      generalize valB y.data.toList = qv at hvl HX
      cases qn
      · have HF := Lib.hid (goodL_no (by rw [HX.out]; rfl) (by omega : k < L.length))
        clear HX HG
        go_wp2_with fail
        go_quiet (first | (go_at_call 21; exact quiet_left (hnm _)) | (go_at_call 23; exact quiet_left (hvl _)))
        go_wp2_with fail
        go_ret
        exact ⟨ret_bool HF.out.symm, bl_drewN hbw _⟩
      · cases qv
        · have HF := Lib.hid (goodL_no (by rw [HX.out]; rfl) (by omega : k < L.length))
          clear HX HG
          go_wp2_with fail
          go_quiet (first | (go_at_call 21; exact quiet_left (hnm _)) | (go_at_call 23; exact quiet_left (hvl _)))
          go_wp2_with fail
          go_ret
          exact ⟨ret_bool HF.out.symm, bl_drewN hbw _⟩
        · by_cases h0 : k = 0
          · have hz0 : decide (0 < k) = false := decide_eq_false (by omega)
            have HF := Lib.hid (show goodTo L (k + 1) = true by rw [goodTo_succ, HX.out, HG.out, decide_eq_true h0]; rfl)
            clear HX HG h0
            go_wp2_with fail
            go_quiet (first | (go_at_call 21; exact quiet_left (hnm _)) | (go_at_call 23; exact quiet_left (hvl _)))
            go_wp2_with fail
            exact ⟨⟨bl_drewN hbw _, k + 1, by omega, rfl, HF⟩, by (simp only [intOf]; omega)⟩
          · obtain ⟨b3, off3, px, py, hAA, _, hpx, p0, _⟩ := lab_at (hl.below hbw) (show k - 1 < n by omega)
            cases hAA
            have hz0 : decide (0 < k) = true := decide_eq_true (by omega)
            have hkm0 : (0 : Int) ≤ (k : Int) - 1 := by omega
            have hkm1 : (k : Int) - 1 < n := by omega
            have hkm2 : (1 : Int) ≤ k := by omega
            have HY : Hid (goodAt L k = Op.bytesLess px.toList x.toList) := Lib.hid (by
              rw [HX.out, List.getD_eq_getElem?_getD, hpx, bytesLess_eq, ByteArray.toList_eq, ByteArray.toList_eq, decide_eq_false h0]; rfl)
            have hw1 : IntKind.i64.wrap ((k : Int) - 1) = (k : Int) - 1 := IntWalk.i64_in _ (by omega)
            have hw2 : ((k : Int) - 1).toNat = k - 1 := by omega
            cases hq : Op.bytesLess px.toList x.toList
            · have HF := Lib.hid (goodL_no (by rw [HY.out, hq]) (by omega : k < L.length))
              clear HX HY HG
              go_wp2_with fail
              go_quiet (first | (go_at_call 21; exact quiet_left (hnm _)) | (go_at_call 23; exact quiet_left (hvl _)))
              go_wp2_with fail
              go_ret
              exact ⟨ret_bool HF.out.symm, bl_drewN hbw _⟩
            · have HF := Lib.hid (show goodTo L (k + 1) = true by rw [goodTo_succ, HY.out, hq, HG.out]; rfl)
              clear HX HY HG hw1 hw2
              go_wp2_with fail
              go_quiet (first | (go_at_call 21; exact quiet_left (hnm _)) | (go_at_call 23; exact quiet_left (hvl _)))
              go_wp2_with fail
              exact ⟨⟨bl_drewN hbw _, k + 1, by omega, rfl, HF⟩, by (simp only [intOf]; omega)⟩
    · have hdk : decide ((k : Int) < n) = false := decide_eq_false (by omega)
      obtain rfl : k = n := by omega
      have HF : Hid (goodL L = true) := Lib.hid (by rw [goodL_end (by rw [hll]; exact HG.out), hll]; exact decide_eq_true (by omega))
      clear HG
      go_wp2_with fail
      go_ret
      exact ⟨ret_bool HF.out.symm, hbw⟩
/-! ### short -/
def shortB (L : List Lab) : Bool := L.all (fun x => decide (x.1.size ≤ 100) && decide (x.2.size ≤ 100)) && decide (L.length ≤ 20)
theorem shortB_all {L : List Lab} (h : shortB L = true) : (∀ x ∈ L, x.1.size ≤ 100 ∧ x.2.size ≤ 100) ∧ L.length ≤ 20 := by
  unfold shortB at h
  rw [Bool.and_eq_true, List.all_eq_true, decide_eq_true_eq] at h
  exact ⟨fun x hx => by have := h.1 x hx; simpa using this, h.2⟩
theorem shortB_no {L : List Lab} {k : Nat} {x y : ByteArray} (h : L[k]? = some (x, y)) (g : 100 < x.size ∨ 100 < y.size) : shortB L = false := by
  cases hs : shortB L
  · rfl
  · have h3 : x.size ≤ 100 ∧ y.size ≤ 100 := (shortB_all hs).1 _ (List.mem_of_getElem? h)
    omega
theorem shortB_end {L : List Lab} (h : ∀ (k : Nat) (x : Lab), L[k]? = some x → x.1.size ≤ 100 ∧ x.2.size ≤ 100) : shortB L = decide (L.length ≤ 20) := by
  unfold shortB
  have : L.all (fun x => decide (x.1.size ≤ 100) && decide (x.2.size ≤ 100)) = true := by
    rw [List.all_eq_true]
    intro x hx
    obtain ⟨k, hk, rfl⟩ := List.getElem_of_mem hx
    have := h k _ (List.getElem?_eq_getElem hk)
    simp [this.1, this.2]
  rw [this, Bool.true_and]
set_option maxRecDepth 100000 in
set_option maxHeartbeats 800000 in
theorem short_any (A : Option Addr) (n cap : Nat) (L : List Lab) (w : World) (hl : IsRows labCell 2 w w.heap.size A n L) (hn : n ≤ 9223372036854775807) :
    Calls Try.prog 8 #[.slice A n cap] w fun e w' => e = .returned (.bool (shortB L)) ∧ w = w' := by
  have hll := hl.1
  go_enter Try.func8, Try.ntmps8
  go_wp2_with fail
  go_loop [3] (fun i => ∃ k : Nat, k ≤ n ∧ i = .int .i64 k ∧ Hid (∀ (j : Nat) (x : Lab), j < k → L[j]? = some x → x.1.size ≤ 100 ∧ x.2.size ≤ 100)) (fun i => n - (intOf i).toNat)
  case atStart => exact ⟨0, by omega, rfl, Lib.hid (fun j x h => absurd h (by omega))⟩
  case round =>
    obtain ⟨k, hk, rfl, HG⟩ := hrel
    by_cases hlt : k < n
    · have hdk : decide ((k : Int) < n) = true := decide_eq_true (by omega)
      have hk0 : (0 : Int) ≤ k := by omega
      have hk1 : (k : Int) < n := by omega
      obtain ⟨b, off, x, y, rfl, hgb, hx, e0, e1⟩ := lab_at hl hlt
      by_cases h1 : 100 < x.size
      · have hd1 : decide ((100 : Int) < x.size) = true := decide_eq_true (by omega)
        have HF := Lib.hid (shortB_no hx (.inl h1))
        go_wp2_with fail
        go_ret
        exact ⟨ret_bool HF.out.symm, rfl⟩
      · have hd1 : decide ((100 : Int) < x.size) = false := decide_eq_false (by omega)
        by_cases h2 : 100 < y.size
        · have hd2 : decide ((100 : Int) < y.size) = true := decide_eq_true (by omega)
          have HF := Lib.hid (shortB_no hx (.inr h2))
          go_wp2_with fail
          go_ret
          exact ⟨ret_bool HF.out.symm, rfl⟩
        · have hd2 : decide ((100 : Int) < y.size) = false := decide_eq_false (by omega)
          have HF : Hid (∀ (j : Nat) (x : Lab), j < k + 1 → L[j]? = some x → x.1.size ≤ 100 ∧ x.2.size ≤ 100) := Lib.hid (fun j z hj hz => by
            by_cases e : j = k
            · subst e; rw [hx] at hz; cases hz; exact ⟨by show x.size ≤ 100; omega, by show y.size ≤ 100; omega⟩
            · exact HG.out j z (by omega) hz)
          go_wp2_with fail
          exact ⟨⟨k + 1, by omega, rfl, HF⟩, by (simp only [intOf]; omega)⟩
    · have hdk : decide ((k : Int) < n) = false := decide_eq_false (by omega)
      obtain rfl : k = n := by omega
      have HF : Hid (shortB L = decide ((k : Int) ≤ 20)) := Lib.hid (by
        rw [shortB_end (fun j x hx => HG.out j x (by have := (List.getElem?_eq_some_iff.1 hx).1; omega) hx), hll]; exact decide_eq_decide.2 (by omega))
      clear HG
      go_wp2_with fail
      go_ret
      exact ⟨ret_bool HF.out.symm, rfl⟩
end Go.Proofs.Ytlolbpefeagclaa
