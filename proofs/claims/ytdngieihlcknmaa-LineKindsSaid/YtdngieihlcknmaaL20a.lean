/- known of the laws on the line format. -/
import Derived.Test.YtdngieihlcknmaaLineG
import Derived.Test.YtdngieihlcknmaaLineH
namespace Go.Proofs.Ytdngieihlcknmaa
set_option linter.unusedVariables false
set_option linter.unusedSimpArgs false
open Go.RowKit
theorem kn_rows : lineRows (ByteArray.mk #[97, 92, 44, 98, 44, 99, 61, 100, 32, 101, 61, 49, 105, 44, 102, 61, 34, 92, 34, 34, 32, 49, 50, 10]).data.toList = ([⟨0, mkS [97, 44, 98], 0, [⟨mkS [99], mkS [100], 5, 7⟩], [⟨mkS [101], mkS [49], 9, 11, 1⟩, ⟨mkS [102], mkS [34], 14, 17, 4⟩], mkS [], 0, true, mkS [49, 50], 21⟩], 24, false) := by kernel_rfl
theorem kn1 : lineBad (ByteArray.mk #[97, 32, 98, 61, 49]).data.toList = 5 := by decide +kernel
theorem kn2 : lineBad (ByteArray.mk #[]).data.toList = -1 := by decide +kernel
theorem kn3 : lineBad (ByteArray.mk #[35]).data.toList = 0 := by decide +kernel
theorem kn4 : lineBad (ByteArray.mk #[97, 32, 98, 61, 45, 49, 117, 10]).data.toList = 6 := by decide +kernel
theorem knB (s : ByteArray) (k : Int) (h : lineBad s.data.toList = k) (hs : s.size ≤ 1048576) (w : World) : Calls Try.prog 11 #[.string s] w fun e w' => e = .returned (.int .i64 k) ∧ Below w.heap.size w w' := by
  rw [← h]; exact bad_any' s w hs
theorem knM (w : World) : Calls Try.prog 13 #[.string ⟨#[97, 32, 61]⟩] w fun e w' => e = .returned (.string ⟨#[97, 92, 32, 61]⟩) ∧ Below w.heap.size w w' := measure_any ⟨#[97, 32, 61]⟩ w (by decide)
theorem knK (w : World) : Calls Try.prog 15 #[.string ⟨#[97, 32, 61]⟩] w fun e w' => e = .returned (.string ⟨#[97, 92, 32, 92, 61]⟩) ∧ Below w.heap.size w w' := key_any ⟨#[97, 32, 61]⟩ w (by decide)
theorem knQ (w : World) : Calls Try.prog 16 #[.string ⟨#[34]⟩] w fun e w' => e = .returned (.string ⟨#[92, 34]⟩) ∧ Below w.heap.size w w' := quote_any ⟨#[34]⟩ w (by decide)
/-- What stands in memory behind the first call. -/
def KnAt (w : World) (B b off bt_ ot tc bf of_ fc : Nat) : Prop :=
  (b < B ∧ bt_ < B ∧ bf < B) ∧
  ((w.cell? ⟨b, off, none⟩ = some (.int .i64 0) ∧ w.cell? ⟨b, off + 1, none⟩ = some (.string ⟨#[97, 44, 98]⟩) ∧ w.cell? ⟨b, off + 2, none⟩ = some (.int .i64 0) ∧ w.cell? ⟨b, off + 3, none⟩ = some (.slice (some ⟨bt_, ot, none⟩) 1 tc) ∧ w.cell? ⟨b, off + 4, none⟩ = some (.slice (some ⟨bf, of_, none⟩) 2 fc) ∧ w.cell? ⟨b, off + 5, none⟩ = some (.string ⟨#[]⟩) ∧ w.cell? ⟨b, off + 6, none⟩ = some (.int .i64 0) ∧ w.cell? ⟨b, off + 7, none⟩ = some (.bool true) ∧ w.cell? ⟨b, off + 8, none⟩ = some (.string ⟨#[49, 50]⟩) ∧ w.cell? ⟨b, off + 9, none⟩ = some (.int .i64 21)) ∧
  (w.cell? ⟨bt_, ot, none⟩ = some (.string ⟨#[99]⟩) ∧ w.cell? ⟨bt_, ot + 1, none⟩ = some (.string ⟨#[100]⟩) ∧ w.cell? ⟨bt_, ot + 2, none⟩ = some (.int .i64 5) ∧ w.cell? ⟨bt_, ot + 3, none⟩ = some (.int .i64 7)) ∧
  (w.cell? ⟨bf, of_ + 1, none⟩ = some (.string ⟨#[49]⟩) ∧ w.cell? ⟨bf, of_ + 3, none⟩ = some (.int .i64 11) ∧ w.cell? ⟨bf, of_ + 4, none⟩ = some (.int .i64 1) ∧ w.cell? ⟨bf, of_ + 5 + 1, none⟩ = some (.string ⟨#[34]⟩) ∧ w.cell? ⟨bf, of_ + 5 + 4, none⟩ = some (.int .i64 4)))
theorem KnAt.below {w w' : World} {B b off bt_ ot tc bf of_ fc : Nat} (h : KnAt w B b off bt_ ot tc bf of_ fc) (k : Below B w w') : KnAt w' B b off bt_ ot tc bf of_ fc := by
  obtain ⟨⟨h1, h2, h3⟩, ⟨c0, c1, c2, c3, c4, c5, c6, c7, c8, c9⟩, ⟨t0, t1, t2, t3⟩, f1, f3, f4, g1, g4⟩ := h
  have q : ∀ x o v, x < B → w.cell? ⟨x, o, none⟩ = some v → w'.cell? ⟨x, o, none⟩ = some v := fun x o v hx hv => (k.cell (p := ⟨x, o, none⟩) hx).trans hv
  exact ⟨⟨h1, h2, h3⟩, ⟨q _ _ _ h1 c0, q _ _ _ h1 c1, q _ _ _ h1 c2, q _ _ _ h1 c3, q _ _ _ h1 c4, q _ _ _ h1 c5, q _ _ _ h1 c6, q _ _ _ h1 c7, q _ _ _ h1 c8, q _ _ _ h1 c9⟩, ⟨q _ _ _ h2 t0, q _ _ _ h2 t1, q _ _ _ h2 t2, q _ _ _ h2 t3⟩, q _ _ _ h3 f1, q _ _ _ h3 f3, q _ _ _ h3 f4, q _ _ _ h3 g1, q _ _ _ h3 g4⟩
theorem knR (w : World) : Calls Try.prog 9 #[.string ⟨#[97, 92, 44, 98, 44, 99, 61, 100, 32, 101, 61, 49, 105, 44, 102, 61, 34, 92, 34, 34, 32, 49, 50, 10]⟩] w fun e w' => (∃ b off c bt_ ot tc bf of_ fc, e = .returned (.tuple #[.slice (some ⟨b, off, none⟩) 1 c, .bool true]) ∧ KnAt w' w'.heap.size b off bt_ ot tc bf of_ fc) ∧ Below w.heap.size w w' := by
  refine (rows_any _ w (by decide)).mono ?_
  rintro e w' ⟨⟨A, n, c, rfl, hR⟩, hb⟩
  rw [kn_rows] at hR ⊢
  simp only [Bool.false_eq_true, if_false] at hR
  obtain ⟨l, hl, hr, ha⟩ := hR
  obtain ⟨x, rfl⟩ : ∃ x, l = [x] := by
    have := congrArg List.length hl
    rw [List.length_map] at this
    exact List.length_eq_one_iff.1 this
  obtain rfl : 1 = n := hr.1
  obtain ⟨row, tA, tc, fA, fc⟩ := x
  simp only [List.map_cons, List.map_nil, List.cons.injEq, and_true] at hl
  subst hl
  obtain ⟨ht, hf⟩ := ha _ List.mem_cons_self
  obtain ⟨b, off, rfl, hbl, hc⟩ := hr.2 (by omega)
  obtain ⟨b2, off2, e2, hbl2, hc2⟩ := ht.2 (by simp)
  obtain ⟨b3, off3, e3, hbl3, hc3⟩ := hf.2 (by simp)
  simp only at e2 e3
  subst e2 e3
  refine ⟨⟨b, off, c, b2, off2, tc, b3, off3, fc, rfl, ⟨hbl, hbl2, hbl3⟩, ⟨hc 0 _ 0 _ rfl rfl, hc 0 _ 1 _ rfl rfl, hc 0 _ 2 _ rfl rfl, hc 0 _ 3 _ rfl rfl, hc 0 _ 4 _ rfl rfl, hc 0 _ 5 _ rfl rfl, hc 0 _ 6 _ rfl rfl, hc 0 _ 7 _ rfl rfl, hc 0 _ 8 _ rfl rfl, hc 0 _ 9 _ rfl rfl⟩, ⟨hc2 0 _ 0 _ rfl rfl, hc2 0 _ 1 _ rfl rfl, hc2 0 _ 2 _ rfl rfl, hc2 0 _ 3 _ rfl rfl⟩, hc3 0 _ 1 _ rfl rfl, hc3 0 _ 3 _ rfl rfl, hc3 0 _ 4 _ rfl rfl, ?_, ?_⟩, hb⟩
  · exact hc3 1 _ 1 _ rfl rfl
  · exact hc3 1 _ 4 _ rfl rfl
set_option maxRecDepth 100000 in
set_option maxHeartbeats 3200000 in
theorem known20_any (w : World) :
    Calls Try.prog 8 #[] w fun e w' => e = .returned (.bool true) ∧ Below w.heap.size w w' := by
  go_enter Try.func8, Try.ntmps8
  go_wp2_with (first
    | (go_at_call 9; refine (knR _).mono ?_; rintro e w1 ⟨⟨b, off, c, bt_, ot, tc, bf, of_, fc, rfl, hK⟩, hbw⟩; have hK0 := hK; obtain ⟨_, ⟨c0, c1, c2, c3, c4, c5, c6, c7, c8, c9⟩, _⟩ := hK0)
    | (go_at_call 11; (with_reducible refine (knB ⟨#[97, 32, 98, 61, 49]⟩ 5 kn1 (by decide) _).mono ?_); rintro e w2 ⟨rfl, hb2⟩; have K2 := (hK.below ((Below.refl _ _).alloc (Nat.le_refl _) _)).below (hb2.mono (by simp)); have X2 := (Blk.new w1 _ _).below hb2 (by simp); have z2 := hb2.size; have B2 := (hbw.alloc hbw.size _).trans (hb2.mono (by have := hbw.size; simp; omega)))
    | (go_at_call 11; (with_reducible refine (knB ⟨#[]⟩ (-1) kn2 (by decide) _).mono ?_); rintro e w3 ⟨rfl, hb3⟩; have K3 := K2.below (hb3.mono (by simp at z2; omega)); have X3 := X2.below hb3 (by simp at z2; omega); have B3 := bl_any B2 hb3; have z3 := hb3.size)
    | (go_at_call 11; (with_reducible refine (knB ⟨#[35]⟩ 0 kn3 (by decide) _).mono ?_); rintro e w4 ⟨rfl, hb4⟩; have K4 := K3.below (hb4.mono (by simp at z2; omega)); have X4 := X3.below hb4 (by simp at z2; omega); have B4 := bl_any B3 hb4; have z4 := hb4.size)
    | (go_at_call 11; (with_reducible refine (knB ⟨#[97, 32, 98, 61, 45, 49, 117, 10]⟩ 6 kn4 (by decide) _).mono ?_); rintro e w5 ⟨rfl, hb5⟩; have K5 := K4.below (hb5.mono (by simp at z2; omega)); have X5 := X4.below hb5 (by simp at z2; omega); have B5 := bl_any B4 hb5; have t0 := K5.2.2.1.1; have t1 := K5.2.2.1.2.1; have t2 := K5.2.2.1.2.2.1; have t3 := K5.2.2.1.2.2.2; have f1 := K5.2.2.2.1; have f3 := K5.2.2.2.2.1; have f4 := K5.2.2.2.2.2.1; have g1 := K5.2.2.2.2.2.2.1; have g4 := K5.2.2.2.2.2.2.2; have x1 := (Blk.cell X5 1).trans rfl; have x3 := (Blk.cell X5 3).trans rfl; have x4 := (Blk.cell X5 4).trans rfl; have x7 := (Blk.cell X5 7).trans rfl; have x8 := (Blk.cell X5 8).trans rfl)
    | (go_at_call 13; refine (knM _).mono ?_; rintro e w6 ⟨rfl, hb6⟩)
    | (go_at_call 15; refine (knK _).mono ?_; rintro e w7 ⟨rfl, hb7⟩)
    | (go_at_call 16; refine (knQ _).mono ?_; rintro e w8 ⟨rfl, hb8⟩))
  go_ret
  exact ⟨rfl, bl_any (bl_any (bl_any B5 hb6) hb7) hb8⟩
end Go.Proofs.Ytdngieihlcknmaa
