/- known of the laws on labels. -/
import Derived.Test.YtlolbpefeagclaaLabF
import Derived.Test.YtlolbpefeagclaaLabG
import Derived.Test.YtlolbpefeagclaaLabC
import Derived.Test.YtlolbpefeagclaaLabB2
namespace Go.Proofs.Ytlolbpefeagclaa
open Go.RowKit
abbrev lbA2 : Lab := (⟨#[97]⟩, ⟨#[50]⟩)
abbrev lbB1 : Lab := (⟨#[98]⟩, ⟨#[49]⟩)
theorem k7_s1 : sortL [lbB1, lbA2] = some [lbA2, lbB1] := sortL_some ⟨List.Perm.swap _ _ _, by simp [List.pairwise_cons, nmL]; decide⟩
theorem k7_s2 : sortL [(⟨#[97]⟩, ⟨#[]⟩), ((⟨#[97]⟩, ⟨#[120]⟩) : Lab)] = none := sortL_none (by unfold distinct; simp [nmL])
theorem k7_g : getL [lbA2, lbB1] [98] = some lbB1 := rfl
theorem k7_o : outL [lbA2, lbB1] [⟨#[97]⟩, ⟨#[99]⟩] = [lbB1] := rfl
theorem k7_c : cmpRow [lbB1] [lbA2, lbB1] = 1 := rfl
theorem k7_good : goodL [lbA2, lbB1] = true := by decide +kernel
theorem k7_n1 : nameB [97, 32, 98] = true := by decide +kernel
theorem k7_n2 : nameB [] = false := by decide +kernel
theorem k7_n3 : nameB [97, 10] = false := by decide +kernel
theorem k7_v1 : valB [] = true := by decide +kernel
theorem k7_v2 : valB [255] = false := by decide +kernel
theorem k7_S1 (w : World) : Calls Try.prog 9 #[.slice (some ⟨w.heap.size, 0, none⟩) 2 2] (w.alloc (.cells #[.string ⟨#[98]⟩, .string ⟨#[49]⟩, .string ⟨#[97]⟩, .string ⟨#[50]⟩] 38)) fun e w' =>
    (∃ g off cap, e = .returned (.tuple #[.slice (some ⟨g, off, none⟩) 2 cap, .bool true]) ∧ g < w'.heap.size ∧ IsRows labCell 2 w' w'.heap.size (some ⟨g, off, none⟩) 2 [lbA2, lbB1]) ∧ Below w.heap.size w w' := by
  refine (sort_any _ 2 2 [lbB1, lbA2] _ (IsRows.made (f := labCell) (size := 2) (fun _ => rfl) w 38 #[.string ⟨#[98]⟩, .string ⟨#[49]⟩, .string ⟨#[97]⟩, .string ⟨#[50]⟩] [lbB1, lbA2] rfl) (by decide)).mono ?_
  rintro e w' ⟨⟨A', n', cap', rfl, hr, _⟩, hb⟩
  rw [k7_s1] at hr
  have hn : n' = 2 := hr.1.symm
  subst hn
  obtain ⟨g, off, rfl, hg, _⟩ := hr.2 (by decide)
  exact ⟨⟨g, off, cap', by rw [k7_s1]; rfl, hg, hr⟩, bl_any (bl_alloc (Below.refl _ _) _) hb⟩
theorem k7_S2 (w : World) (b : Nat) (h : b = w.heap.size) : Calls Try.prog 9 #[.slice (some ⟨b, 0, none⟩) 2 2] (w.alloc (.cells #[.string ⟨#[97]⟩, .string ⟨#[]⟩, .string ⟨#[97]⟩, .string ⟨#[120]⟩] 38)) fun e w' =>
    (∃ A' n' cap', e = .returned (.tuple #[.slice A' n' cap', .bool false])) ∧ Below w.heap.size w w' := by
  subst h
  refine (sort_any _ 2 2 [(⟨#[97]⟩, ⟨#[]⟩), (⟨#[97]⟩, ⟨#[120]⟩)] _ (IsRows.made (f := labCell) (size := 2) (fun _ => rfl) w 38 #[.string ⟨#[97]⟩, .string ⟨#[]⟩, .string ⟨#[97]⟩, .string ⟨#[120]⟩] [(⟨#[97]⟩, ⟨#[]⟩), (⟨#[97]⟩, ⟨#[120]⟩)] rfl) (by decide)).mono ?_
  rintro e w' ⟨⟨A', n', cap', rfl, hr, _⟩, hb⟩
  exact ⟨⟨A', n', cap', by rw [k7_s2]; rfl⟩, bl_any (bl_alloc (Below.refl _ _) _) hb⟩
theorem k7_O (w : World) (g off cap : Nat) (b : Nat) (h : b = w.heap.size) (hl : IsRows labCell 2 w w.heap.size (some ⟨g, off, none⟩) 2 [lbA2, lbB1]) : Calls Try.prog 14 #[.slice (some ⟨g, off, none⟩) 2 cap, .slice (some ⟨b, 0, none⟩) 2 2] (w.alloc (.cells #[.string ⟨#[97]⟩, .string ⟨#[99]⟩] 9)) fun e w' =>
    (∃ g off cap, e = .returned (.slice (some ⟨g, off, none⟩) 1 cap) ∧ g < w'.heap.size ∧ IsRows labCell 2 w' w'.heap.size (some ⟨g, off, none⟩) 1 [lbB1]) ∧ Below w.heap.size w w' := by
  subst h
  refine (without_any _ 2 cap [lbA2, lbB1] _ 2 2 [⟨#[97]⟩, ⟨#[99]⟩] _ ((hl.below ((Below.refl _ _).alloc (Nat.le_refl _) _)).more (by simp)) (by decide) (IsRows.made (f := strCell) (size := 1) (fun _ => rfl) w 9 #[.string ⟨#[97]⟩, .string ⟨#[99]⟩] [⟨#[97]⟩, ⟨#[99]⟩] rfl) (by decide)).mono ?_
  rintro e w' ⟨⟨v, rfl, hown⟩, hb⟩
  rw [k7_o] at hown
  obtain ⟨A', cap', rfl, hr⟩ := own_rws (f := labCell) (fun _ => rfl) hown rfl
  obtain ⟨g, off, rfl, hg, _⟩ := hr.2 (by decide)
  exact ⟨⟨g, off, cap', rfl, hg, hr⟩, bl_any (bl_alloc (Below.refl _ _) _) hb⟩
theorem k7_G (w : World) (g off cap : Nat) (hl : IsRows labCell 2 w w.heap.size (some ⟨g, off, none⟩) 2 [lbA2, lbB1]) : Calls Try.prog 11 #[.slice (some ⟨g, off, none⟩) 2 cap, .string ⟨#[98]⟩] w fun e w' => e = .returned (.tuple #[.string ⟨#[49]⟩, .bool true]) ∧ Below w.heap.size w w' := by
  have h := get_any _ 2 cap [lbA2, lbB1] ⟨#[98]⟩ w hl (by decide)
  rw [show (⟨#[98]⟩ : ByteArray).data.toList = [98] from rfl, k7_g] at h
  exact h
theorem k7_C (w : World) (g off cap g2 off2 cap2 : Nat) (hm : IsRows labCell 2 w w.heap.size (some ⟨g2, off2, none⟩) 1 [lbB1]) (hl : IsRows labCell 2 w w.heap.size (some ⟨g, off, none⟩) 2 [lbA2, lbB1]) : Calls Try.prog 16 #[.slice (some ⟨g2, off2, none⟩) 1 cap2, .slice (some ⟨g, off, none⟩) 2 cap] w fun e w' => e = .returned (.int .i64 1) ∧ Below w.heap.size w w' := by
  have h := labCompare_any _ 1 cap2 [lbB1] _ 2 cap [lbA2, lbB1] w hm (by decide) hl (by decide)
  rw [k7_c] at h
  exact h
theorem k7_D (w : World) (g off cap : Nat) (hl : IsRows labCell 2 w w.heap.size (some ⟨g, off, none⟩) 2 [lbA2, lbB1]) : Calls Try.prog 18 #[.slice (some ⟨g, off, none⟩) 2 cap] w fun e w' => e = .returned (.bool true) ∧ Below w.heap.size w w' := by
  have h := good_any _ 2 cap [lbA2, lbB1] w hl (by decide) (by intro x hx; simp at hx; rcases hx with rfl | rfl <;> decide)
  rw [k7_good] at h
  exact h
theorem k7_N (s : ByteArray) (b : Bool) (w : World) (h : nameB s.data.toList = b) (hs : s.size ≤ 100) : Calls Try.prog 20 #[.string s] w fun e w' => e = .returned (.bool b) ∧ Below w.heap.size w w' := by
  subst h; exact labName_any s w (Nat.le_trans hs (by decide))
theorem k7_V (s : ByteArray) (b : Bool) (w : World) (h : valB s.data.toList = b) (hs : s.size ≤ 100) : Calls Try.prog 22 #[.string s] w fun e w' => e = .returned (.bool b) ∧ Below w.heap.size w w' := by
  subst h; exact labValue_any s w (Nat.le_trans hs (by decide))
set_option maxRecDepth 100000 in
set_option maxHeartbeats 3200000 in
theorem known7_any (w : World) :
    Calls Try.prog 7 #[] w fun e w' => e = .returned (.bool true) ∧ Below w.heap.size w w' := by
  go_enter Try.func7, Try.ntmps7
  go_wp2_with (first
    | (go_at_call 9; with_reducible refine (k7_S1 _).mono ?_; rintro e w1 ⟨⟨g, off, cap, rfl, hg1, hr1⟩, hb1⟩)
    | (go_at_call 9; refine (k7_S2 _ _ (by simp)).mono ?_; rintro e w2 ⟨⟨A2, n2, cap2, rfl⟩, hb2⟩; have hr2 := (hr1.below hb2).more hb2.size)
    | (go_at_call 11; refine (k7_G _ g off cap hr2).mono ?_; rintro e w3 ⟨rfl, hb3⟩; have hr3 := (hr2.below hb3).more hb3.size)
    | (go_at_call 14; refine (k7_O _ g off cap _ (by simp) hr3).mono ?_; rintro e w4 ⟨⟨g4, off4, cap4, rfl, hg4, hr5⟩, hb4⟩; have hr4 := (hr3.below hb4).more hb4.size; obtain ⟨b1, o1, h1, _, hc1⟩ := hr4.2 (by decide); cases h1; obtain ⟨b5, o5, h5, _, hc5⟩ := hr5.2 (by decide); cases h5; have c0 := hc1 0 lbA2 0 _ rfl rfl; have d0 := hc5 0 lbB1 0 _ rfl rfl; simp at c0 d0)
    | (go_at_call 16; refine (k7_C _ g off cap g4 off4 cap4 hr5 hr4).mono ?_; rintro e w5 ⟨rfl, hb5⟩; have hr6 := (hr4.below hb5).more hb5.size)
    | (go_at_call 18; refine (k7_D _ g off cap hr6).mono ?_; rintro e w6 ⟨rfl, hb6⟩)
    | (go_at_call 20; with_reducible refine (k7_N ⟨#[97, 32, 98]⟩ true _ k7_n1 (by decide)).mono ?_; rintro e w7 ⟨rfl, hb7⟩)
    | (go_at_call 20; with_reducible refine (k7_N ⟨#[]⟩ false _ k7_n2 (by decide)).mono ?_; rintro e w8 ⟨rfl, hb8⟩)
    | (go_at_call 20; with_reducible refine (k7_N ⟨#[97, 10]⟩ false _ k7_n3 (by decide)).mono ?_; rintro e w9 ⟨rfl, hb9⟩)
    | (go_at_call 22; with_reducible refine (k7_V ⟨#[]⟩ true _ k7_v1 (by decide)).mono ?_; rintro e w10 ⟨rfl, hb10⟩)
    | (go_at_call 22; with_reducible refine (k7_V ⟨#[255]⟩ false _ k7_v2 (by decide)).mono ?_; rintro e w11 ⟨rfl, hb11⟩))
  go_ret
  exact ⟨rfl, bl_any (bl_any (bl_any (bl_any (bl_any (bl_any (bl_any (bl_any (bl_any (bl_any hb1 (bl_any (Below.refl _ _) hb2)) hb3) (bl_any (Below.refl _ _) hb4)) hb5) hb6) hb7) hb8) hb9) hb10) hb11⟩
end Go.Proofs.Ytlolbpefeagclaa
