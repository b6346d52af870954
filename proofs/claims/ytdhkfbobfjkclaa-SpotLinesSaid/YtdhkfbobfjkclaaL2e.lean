/- The walk of SpotLines. -/
import Derived.Test.YtdhkfbobfjkclaaL2a
import Derived.Test.YtdhkfbobfjkclaaOpenInts
namespace Go.Proofs.Ytdhkfbobfjkclaa
open Go.RowKit
theorem spot_here (s : ByteArray) (k : Nat) (h : k ≤ s.size) : spotO s k = k ∧ spotL s k = lineOf s.data.toList k ∧ spotC s k = colOf s.data.toList k := by
  have e : clampO s.size k = k := by unfold clampO; omega
  simp [spotO, spotL, spotC, e]
theorem spot_past (s : ByteArray) : spotO s (s.size + 1) = s.size ∧ spotL s (s.size + 1) = lineOf s.data.toList s.size ∧ spotC s (s.size + 1) = colOf s.data.toList s.size := by
  have e : clampO s.size (s.size + 1) = s.size := by unfold clampO; omega
  simp [spotO, spotL, spotC, e]
theorem put_size (t : ByteArray) (c : UInt8) : (t ++ ⟨#[c]⟩).size = t.size + 1 := by
  rw [ByteArray.size_append]; rfl
set_option maxRecDepth 100000 in
set_option maxHeartbeats 3200000 in
theorem lines2_any (A : Option Addr) (n cap : Nat) (zs : List Int) (d : Bool) (w : World) (hl : IsRow .u8 w A n cap zs) :
    Calls Try.prog 7 #[.slice A n cap, .bool d] w fun e w' => e = .returned (.bool true) ∧ Below w.heap.size w w' := by
  by_cases h20 : 20 < n
  · have hd20 : decide ((20 : Int) < n) = true := decide_eq_true (by omega)
    go_enter Try.func7, Try.ntmps7
    go_wp2_with (go_at_call 21; refine (known2_any _).mono ?_; rintro e w1 ⟨rfl, hb1⟩)
    go_ret
    exact ⟨rfl, by repeat (first | exact Below.refl _ _ | assumption | refine bl_trans ?_ (by assumption))⟩
  have hd20 : decide ((20 : Int) < n) = false := decide_eq_false (by omega)
  have h20' : n ≤ 20 := by omega
  clear h20
  go_enter Try.func7, Try.ntmps7
  go_wp2_with (go_at_call 21; refine (known2_any _).mono ?_; rintro e w1 ⟨rfl, hb1⟩)
  go_loop [5, 6] (fun p i => ∃ (k : Nat) (t : ByteArray), k ≤ n ∧ t.size ≤ 13 * k ∧ i = .int .i64 k ∧ p = .string t) (fun _ i => n - (intOf i).toNat)
  case atStart => exact ⟨0, ⟨#[]⟩, by omega, by decide, rfl, rfl⟩
  case round =>
    obtain ⟨k, t, hk, ht, rfl, rfl⟩ := hrel
    by_cases hlt : k < n
    · have hdk : decide ((k : Int) < n) = true := decide_eq_true (by omega)
      obtain ⟨g, off, rfl, hg, hcell⟩ := hl.at_ (by omega)
      obtain ⟨hc0, hw0⟩ := hcell k hlt
      have hc := (hb1.cell (p := ⟨g, off + k, none⟩) hg).trans hc0
      have hz := wf_u8 hw0
      clear hcell hc0 hw0
      generalize zs.getD k 0 = z at hc hz
      go_wp2_with fail
      obtain ⟨zn, rfl⟩ : ∃ zn : Nat, z = (zn : Int) := ⟨z.toNat, by omega⟩
      go_loop [5, 7] (fun p j => ∃ (m : Nat) (t2 : ByteArray), m ≤ 12 ∧ t2.size ≤ 13 * k + m ∧ j = .int .i64 m ∧ p = .string t2) (fun _ j => 12 - (intOf j).toNat)
      case atStart => exact ⟨0, t, by omega, by omega, rfl, rfl⟩
      case round =>
        obtain ⟨m, t2, hm, ht2, rfl, rfl⟩ := hrel
        go_wp2_with fail
        all_goals first
          | exact ⟨⟨m + 1, t2 ++ ⟨#[120]⟩, by omega, by (rw [put_size _ _]; omega), rfl, rfl⟩, by (simp only [intOf]; omega)⟩
          | exact ⟨⟨k + 1, t2 ++ ⟨#[10]⟩, by omega, by (rw [put_size _ _]; omega), rfl, rfl⟩, by (simp only [intOf]; omega)⟩
          | exact ⟨⟨k + 1, t2, by omega, by omega, rfl, rfl⟩, by (simp only [intOf]; omega)⟩
    · have hdk : decide ((k : Int) < n) = false := decide_eq_false (by omega)
      go_wp2_with fail
      have htz : t.size ≤ 260 := by omega
      clear hk hlt hdk ht hl
      go_loopw [8, 9, 10] (fun l c i wr => Below w.heap.size w wr ∧ ∃ k : Nat, k ≤ t.size + 1 ∧ i = .int .i64 k ∧ (k ≤ t.size → l = .int .i64 (lineOf t.data.toList k) ∧ c = .int .i64 (colOf t.data.toList k)) ∧ (∃ z, l = .int .i64 z) ∧ ∃ z, c = .int .i64 z) (fun _ _ i _ => t.size + 2 - (intOf i).toNat)
      case atStart => exact ⟨hb1, 0, by omega, rfl, fun _ => ⟨rfl, rfl⟩, ⟨_, rfl⟩, ⟨_, rfl⟩⟩
      case round =>
        obtain ⟨hbw, k, hk, rfl, hlc, ⟨zl, rfl⟩, ⟨zc, rfl⟩⟩ := hrel
        by_cases hle : k ≤ t.size
        · obtain ⟨hl1, hc1⟩ := hlc hle
          cases hl1; cases hc1
          have hdl : decide ((k : Int) ≤ t.size) = true := decide_eq_true (by omega)
          obtain ⟨ho, hsl, hsc⟩ := spot_here t k hle
          have hlb := lineOf_le t.data.toList k
          have hcb := colOf_le t.data.toList k
          have hnx : lineOf t.data.toList (k + 1) = if bt t.data.toList k = 10 then lineOf t.data.toList k + 1 else lineOf t.data.toList k := rfl
          have hnc : colOf t.data.toList (k + 1) = if bt t.data.toList k = 10 then 1 else colOf t.data.toList k + 1 := rfl
          have hbt : ∀ h : k < t.size, ((t[k]'h).toNat : Int) = bt t.data.toList k := fun h => getElem_bt h
          generalize lineOf t.data.toList k = zl at *
          generalize colOf t.data.toList k = zc at *
          by_cases h10 : bt t.data.toList k = 10
          · have h10d : (bt t.data.toList k == 10) = true := by simp [h10]
            go_wp2_with (go_at_call 22; refine (of_any _ _ _ (by omega)).mono ?_; rintro e w2 ⟨rfl, hb2⟩; rw [ho, hsl, hsc])
            all_goals first
              | exact ⟨⟨bl_trans hbw hb2, k + 1, by omega, rfl, fun hh => absurd hh (by omega), ⟨_, rfl⟩, ⟨_, rfl⟩⟩, by (simp only [intOf]; omega)⟩
              | exact ⟨⟨bl_trans hbw hb2, k + 1, by omega, rfl, fun _ => by (rw [hnx, hnc]; simp [h10]), ⟨_, rfl⟩, ⟨_, rfl⟩⟩, by (simp only [intOf]; omega)⟩
          · have h10d : (bt t.data.toList k == 10) = false := by simp [h10]
            go_wp2_with (go_at_call 22; refine (of_any _ _ _ (by omega)).mono ?_; rintro e w2 ⟨rfl, hb2⟩; rw [ho, hsl, hsc])
            all_goals first
              | exact ⟨⟨bl_trans hbw hb2, k + 1, by omega, rfl, fun hh => absurd hh (by omega), ⟨_, rfl⟩, ⟨_, rfl⟩⟩, by (simp only [intOf]; omega)⟩
              | exact ⟨⟨bl_trans hbw hb2, k + 1, by omega, rfl, fun _ => by (rw [hnx, hnc]; simp [h10]), ⟨_, rfl⟩, ⟨_, rfl⟩⟩, by (simp only [intOf]; omega)⟩
        · have hdl : decide ((k : Int) ≤ t.size) = false := decide_eq_false (by omega)
          have hk1 : k = t.size + 1 := by omega
          subst hk1
          obtain ⟨ho1, hl1, hc1⟩ := spot_past t
          obtain ⟨ho2, hl2, hc2⟩ := spot_here t t.size (Nat.le_refl _)
          go_wp2_with (go_at_call 22; refine (of_any _ _ _ (by omega)).mono ?_; rintro e w2 ⟨rfl, hb2⟩; first | rw [ho1, hl1, hc1] | rw [ho2, hl2, hc2])
          go_ret
          exact ⟨rfl, by repeat (first | exact Below.refl _ _ | assumption | refine bl_trans ?_ (by assumption))⟩
end Go.Proofs.Ytdhkfbobfjkclaa
