/- known of the lossy laws. -/
import Derived.Test.YtjdanidnmpigkaaColl
import Derived.Test.YtjdanidnmpigkaaLossAll
import Derived.Deep.RegionHeld3
namespace Go.Proofs.Ytjdanidnmpigkaa
open Go.RowKit
theorem eqClash (a0 a1 b0 b1 : ByteArray) (w : World) : (binOp .eql 26 (.agg #[.string a0, .string a1]) (.agg #[.string b0, .string b1])).run Try.prog w = .ok (.bool (a0.toList == b0.toList && a1.toList == b1.toList)) w := by
  cases h0 : (a0.toList == b0.toList) <;> cases h1 : (a1.toList == b1.toList) <;> simp only [beq_iff_eq, beq_eq_false_iff_ne] at h0 h1 <;> simp [go_sem, h0, h1]
theorem neqClash (a0 a1 b0 b1 : ByteArray) (w : World) : (binOp .neq 26 (.agg #[.string a0, .string a1]) (.agg #[.string b0, .string b1])).run Try.prog w = .ok (.bool (!(a0.toList == b0.toList && a1.toList == b1.toList))) w := by
  cases h0 : (a0.toList == b0.toList) <;> cases h1 : (a1.toList == b1.toList) <;> simp only [beq_iff_eq, beq_eq_false_iff_ne] at h0 h1 <;> simp [go_sem, h0, h1]
theorem k_c1 : collide 1 1 [[97, 46, 98], [99], [97, 45, 98]] = some ([97, 45, 98], [97, 46, 98]) := by
  refine least_unique (collide_least 1 1 _) ⟨⟨by simp, by simp, by decide, by decide +kernel⟩, fun y hy => ?_⟩
  obtain ⟨h1, h2, h3, h4⟩ := hy
  obtain ⟨y1, y2⟩ := y
  simp only [List.mem_cons, List.not_mem_nil, or_false] at h1 h2
  rcases h1 with rfl | rfl | rfl <;> rcases h2 with rfl | rfl | rfl <;> first
    | exact absurd h3 (by decide)
    | exact absurd h4 (by decide +kernel)
    | (rintro (h | ⟨_, h⟩) <;> exact absurd h (by decide))
theorem k_c2 : collide 1 1 [[97, 46, 98], [97, 46, 98]] = none := by
  refine least_unique (collide_least 1 1 _) (s := none) (fun y hy => ?_)
  obtain ⟨h1, h2, h3, h4⟩ := hy
  obtain ⟨y1, y2⟩ := y
  simp only [List.mem_cons, List.not_mem_nil, or_false, or_self] at h1 h2
  subst h1; subst h2
  exact absurd h3 (by decide)
theorem k_n1 : lossB 1 1 [97, 46, 98] = [97, 95, 98] := by decide +kernel
theorem k_n2 : lossB 1 1 [57] = [95] := by decide +kernel
theorem k_N1 (w : World) : Calls Try.prog 11 #[.int .i64 1, .int .i64 1, .string ⟨#[97, 46, 98]⟩] w fun e w' => e = .returned (.string ⟨#[97, 95, 98]⟩) ∧ Below w.heap.size w w' := by
  have h := name_any 1 1 ⟨#[97, 46, 98]⟩ w (by decide)
  rw [show (⟨#[97, 46, 98]⟩ : ByteArray).data.toList = [97, 46, 98] from rfl, k_n1] at h
  exact h
theorem k_C1 (w : World) : Calls Try.prog 8 #[.int .i64 1, .int .i64 1, .slice (some ⟨w.heap.size, 0, none⟩) 3 3] (w.alloc (.cells #[.string ⟨#[97, 46, 98]⟩, .string ⟨#[99]⟩, .string ⟨#[97, 45, 98]⟩] 9)) fun e w' =>
    e = .returned (.tuple #[.agg #[.string ⟨#[97, 45, 98]⟩, .string ⟨#[97, 46, 98]⟩], .bool true]) ∧ Below w.heap.size w w' := by
  refine (coll_any 1 1 _ 3 3 [(⟨#[97, 46, 98]⟩ : ByteArray), (⟨#[99]⟩ : ByteArray), (⟨#[97, 45, 98]⟩ : ByteArray)] _ (IsRows.made (f := strCell) (size := 1) (fun _ => rfl) w 9 #[.string ⟨#[97, 46, 98]⟩, .string ⟨#[99]⟩, .string ⟨#[97, 45, 98]⟩] [(⟨#[97, 46, 98]⟩ : ByteArray), (⟨#[99]⟩ : ByteArray), (⟨#[97, 45, 98]⟩ : ByteArray)] rfl) (by intro s hs; simp at hs; rcases hs with rfl | rfl | rfl <;> decide) (by decide)).mono ?_
  rintro e w' ⟨rfl, hb⟩
  rw [show ([(⟨#[97, 46, 98]⟩ : ByteArray), (⟨#[99]⟩ : ByteArray), (⟨#[97, 45, 98]⟩ : ByteArray)].map (·.data.toList)) = [[97, 46, 98], [99], [97, 45, 98]] from rfl, k_c1]
  exact ⟨rfl, bl_any (bl_alloc (Below.refl _ _) _) hb⟩
theorem k_C2 (w : World) (b : Nat) (h : b = w.heap.size) : Calls Try.prog 8 #[.int .i64 1, .int .i64 1, .slice (some ⟨b, 0, none⟩) 2 2] (w.alloc (.cells #[.string ⟨#[97, 46, 98]⟩, .string ⟨#[97, 46, 98]⟩] 9)) fun e w' =>
    e = .returned (.tuple #[.agg #[.string ⟨#[]⟩, .string ⟨#[]⟩], .bool false]) ∧ Below w.heap.size w w' := by
  subst h
  refine (coll_any 1 1 _ 2 2 [(⟨#[97, 46, 98]⟩ : ByteArray), (⟨#[97, 46, 98]⟩ : ByteArray)] _ (IsRows.made (f := strCell) (size := 1) (fun _ => rfl) w 9 #[.string ⟨#[97, 46, 98]⟩, .string ⟨#[97, 46, 98]⟩] [(⟨#[97, 46, 98]⟩ : ByteArray), (⟨#[97, 46, 98]⟩ : ByteArray)] rfl) (by intro s hs; simp at hs; subst hs; decide) (by decide)).mono ?_
  rintro e w' ⟨rfl, hb⟩
  rw [show ([(⟨#[97, 46, 98]⟩ : ByteArray), (⟨#[97, 46, 98]⟩ : ByteArray)].map (·.data.toList)) = [[97, 46, 98], [97, 46, 98]] from rfl, k_c2]
  exact ⟨rfl, bl_any (bl_alloc (Below.refl _ _) _) hb⟩
theorem k_A (w : World) (b : Nat) (h : b = w.heap.size) : Calls Try.prog 10 #[.int .i64 1, .int .i64 1, .slice (some ⟨b, 0, none⟩) 2 2] (w.alloc (.cells #[.string ⟨#[97, 46, 98]⟩, .string ⟨#[57]⟩] 9)) fun e w' =>
    ∃ g off cap, e = .returned (.slice (some ⟨g, off, none⟩) 2 cap) ∧ g < w'.heap.size ∧ w'.cell? ⟨g, off, none⟩ = some (.string ⟨#[97, 95, 98]⟩) ∧ w'.cell? ⟨g, off + 1, none⟩ = some (.string ⟨#[95]⟩) ∧ Below w.heap.size w w' := by
  subst h
  refine (lall_any 1 1 _ 2 2 [(⟨#[97, 46, 98]⟩ : ByteArray), (⟨#[57]⟩ : ByteArray)] _ (IsRows.made (f := strCell) (size := 1) (fun _ => rfl) w 9 #[.string ⟨#[97, 46, 98]⟩, .string ⟨#[57]⟩] [(⟨#[97, 46, 98]⟩ : ByteArray), (⟨#[57]⟩ : ByteArray)] rfl) (by intro s hs; simp at hs; rcases hs with rfl | rfl <;> decide) (by decide)).mono ?_
  rintro e w' ⟨⟨v, rfl, hown⟩, hb⟩
  obtain ⟨A, cap, rfl, hr⟩ := own_rws (f := strCell) (fun _ => rfl) hown rfl
  obtain ⟨g, off, rfl, hg, hc⟩ := hr.2 (by decide)
  have c0 := hc 0 (lossS 1 1 ⟨#[97, 46, 98]⟩) 0 _ rfl rfl
  have c1 := hc 1 (lossS 1 1 ⟨#[57]⟩) 0 _ rfl rfl
  rw [show lossS 1 1 ⟨#[97, 46, 98]⟩ = ⟨#[97, 95, 98]⟩ from by (show (⟨(lossB 1 1 [97, 46, 98]).toArray⟩ : ByteArray) = _; rw [k_n1])] at c0
  rw [show lossS 1 1 ⟨#[57]⟩ = ⟨#[95]⟩ from by (show (⟨(lossB 1 1 [57]).toArray⟩ : ByteArray) = _; rw [k_n2])] at c1
  exact ⟨g, off, cap, rfl, hg, by simpa using c0, by simpa using c1, bl_any (bl_alloc (Below.refl _ _) _) hb⟩
set_option maxRecDepth 100000 in
set_option maxHeartbeats 3200000 in
theorem known14_any (w : World) :
    Calls Try.prog 7 #[] w fun e w' => e = .returned (.bool true) ∧ Below w.heap.size w w' := by
  have ec := eqClash
  go_enter Try.func7, Try.ntmps7
  go_wp2_with (first
    | (go_at_call 8; with_reducible refine (k_C1 _).mono ?_; rintro e w1 ⟨rfl, hb1⟩)
    | (go_at_call 8; refine (k_C2 _ _ (by simp)).mono ?_; rintro e w2 ⟨rfl, hb2⟩)
    | (go_at_call 10; refine (k_A _ _ (by first | rfl | simp)).mono ?_; rintro e w3 ⟨g, off, cap, rfl, hg3, hc0, hc1, hb3⟩)
    | (go_at_call 11; with_reducible refine (k_N1 _).mono ?_; rintro e w4 ⟨rfl, hb4⟩; have hd0 := (hb4.cell (p := ⟨g, off, none⟩) hg3).trans hc0; have hd1 := (hb4.cell (p := ⟨g, off + 1, none⟩) hg3).trans hc1; have hs2 := hb2.size; have hs3 := hb3.size; simp at hs2 hs3; have hB := ((((Blk.new w1 26 #[.string ⟨#[97, 45, 98]⟩, .string ⟨#[97, 46, 98]⟩]).below hb2 (by simp)).alloc _).below hb3 (by simp; omega)).below hb4 (by omega); have c0 := hB.cell 0; have c1 := hB.cell 1; simp at c0 c1))
  go_ret
  exact ⟨rfl, by repeat (first | exact Below.refl _ _ | assumption | refine Below.drew ?_ | refine bl_drewN ?_ _ | refine bl_alloc ?_ _ | refine bl_trans ?_ (by assumption))⟩
end Go.Proofs.Ytjdanidnmpigkaa
