/- known of the laws on the open format's words. -/
import Derived.Test.YtdngieihlcknmaaDoorOpenH
namespace Go.Proofs.YtdngieihlcknmaaDoor
set_option linter.unusedVariables false
set_option linter.unusedSimpArgs false
open Go.RowKit
theorem str_app (a b : ByteArray) : (a ++ b).data.toList = a.data.toList ++ b.data.toList := by
  rw [ByteArray.data_append]; simp
theorem mk_self (a : ByteArray) : mkS a.data.toList = a := by apply bytes_ext; rfl
theorem kn_rows : openRows (ByteArray.mk #[35, 32, 84, 89, 80, 69, 32, 97, 32, 99, 111, 117, 110, 116, 101, 114, 10, 97, 95, 116, 111, 116, 97, 108, 123, 120, 61, 34, 92, 110, 34, 125, 32, 49, 32, 50, 46, 53, 10, 35, 32, 69, 79, 70]).data.toList = ([⟨1, mkS [97], 7, [], [], mkS [99, 111, 117, 110, 116, 101, 114], 9, false, mkS [], 0⟩, ⟨0, mkS [97, 95, 116, 111, 116, 97, 108], 17, [⟨mkS [120], mkS [10], 25, 28⟩], [], mkS [49], 33, true, mkS [50, 46, 53], 35⟩], 44, false) := by kernel_rfl
theorem kn_no : (openRows (ByteArray.mk #[97, 32, 49, 10]).data.toList).2.2 = true := by decide +kernel
theorem kn1 : openBad (ByteArray.mk #[35, 32, 84, 89, 80, 69, 32, 97, 32, 99, 111, 117, 110, 116, 101, 114, 10, 97, 95, 116, 111, 116, 97, 108, 123, 120, 61, 34, 92, 110, 34, 125, 32, 49, 32, 50, 46, 53, 10, 35, 32, 69, 79, 70]).data.toList = -1 := by decide +kernel
theorem kn2 : openBad (ByteArray.mk #[97, 32, 49]).data.toList = 3 := by decide +kernel
theorem kn3 : openBad (ByteArray.mk #[35, 32, 88]).data.toList = 2 := by decide +kernel
theorem knB (s : ByteArray) (k : Int) (h : openBad s.data.toList = k) (hs : s.size ≤ 1048576) (w : World) : Calls Tryd.prog 11 #[.string s] w fun e w' => e = .returned (.int .i64 k) ∧ Below w.heap.size w w' := by
  rw [← h]; exact bad_any' s w hs
theorem knQ (m : Int) (w : World) (hm : MxAt w m) : Calls Tryd.prog 13 #[.string ⟨#[97, 34, 10]⟩] w fun e w' => e = .returned (.string ⟨#[97, 92, 34, 92, 110]⟩) ∧ Below w.heap.size w w' := oquote_any ⟨#[97, 34, 10]⟩ m w (by decide) hm
theorem knH (m : Int) (w : World) (hm : MxAt w m) : Calls Tryd.prog 15 #[.string ⟨#[34]⟩] w fun e w' => e = .returned (.string ⟨#[34]⟩) ∧ Below w.heap.size w w' := help_any ⟨#[34]⟩ m w (by decide) hm
/-- What stands in memory behind the first call. -/
def KnAt (w : World) (B b off bt_ ot tc : Nat) (fA : Option Addr) (fc : Nat) : Prop :=
  (b < B ∧ bt_ < B) ∧
  (w.cell? ⟨b, off, none⟩ = some (.int .i64 1) ∧ w.cell? ⟨b, off + 5, none⟩ = some (.string ⟨#[99, 111, 117, 110, 116, 101, 114]⟩) ∧ w.cell? ⟨b, off + 6, none⟩ = some (.int .i64 9)) ∧
  ((w.cell? ⟨b, off + 10, none⟩ = some (.int .i64 0) ∧ w.cell? ⟨b, off + 10 + 1, none⟩ = some (.string ⟨#[97, 95, 116, 111, 116, 97, 108]⟩) ∧ w.cell? ⟨b, off + 10 + 2, none⟩ = some (.int .i64 17) ∧ w.cell? ⟨b, off + 10 + 3, none⟩ = some (.slice (some ⟨bt_, ot, none⟩) 1 tc) ∧ w.cell? ⟨b, off + 10 + 4, none⟩ = some (.slice fA 0 fc) ∧ w.cell? ⟨b, off + 10 + 5, none⟩ = some (.string ⟨#[49]⟩) ∧ w.cell? ⟨b, off + 10 + 6, none⟩ = some (.int .i64 33) ∧ w.cell? ⟨b, off + 10 + 7, none⟩ = some (.bool true) ∧ w.cell? ⟨b, off + 10 + 8, none⟩ = some (.string ⟨#[50, 46, 53]⟩) ∧ w.cell? ⟨b, off + 10 + 9, none⟩ = some (.int .i64 35)) ∧
  (w.cell? ⟨bt_, ot + 1, none⟩ = some (.string ⟨#[10]⟩) ∧ w.cell? ⟨bt_, ot + 3, none⟩ = some (.int .i64 28)))
theorem KnAt.below {w w' : World} {B b off bt_ ot tc fc : Nat} {fA : Option Addr} (h : KnAt w B b off bt_ ot tc fA fc) (k : Below B w w') : KnAt w' B b off bt_ ot tc fA fc := by
  obtain ⟨⟨h1, h2⟩, ⟨d0, d5, d6⟩, ⟨c0, c1, c2, c3, c4, c5, c6, c7, c8, c9⟩, t1, t3⟩ := h
  have q : ∀ x o v, x < B → w.cell? ⟨x, o, none⟩ = some v → w'.cell? ⟨x, o, none⟩ = some v := fun x o v hx hv => (k.cell (p := ⟨x, o, none⟩) hx).trans hv
  exact ⟨⟨h1, h2⟩, ⟨q _ _ _ h1 d0, q _ _ _ h1 d5, q _ _ _ h1 d6⟩, ⟨q _ _ _ h1 c0, q _ _ _ h1 c1, q _ _ _ h1 c2, q _ _ _ h1 c3, q _ _ _ h1 c4, q _ _ _ h1 c5, q _ _ _ h1 c6, q _ _ _ h1 c7, q _ _ _ h1 c8, q _ _ _ h1 c9⟩, q _ _ _ h2 t1, q _ _ _ h2 t3⟩
theorem knR (w : World) : Calls Tryd.prog 9 #[.string ⟨#[35, 32, 84, 89, 80, 69, 32, 97, 32, 99, 111, 117, 110, 116, 101, 114, 10, 97, 95, 116, 111, 116, 97, 108, 123, 120, 61, 34, 92, 110, 34, 125, 32, 49, 32, 50, 46, 53, 10, 35, 32, 69, 79, 70]⟩] w fun e w' => (∃ b off c bt_ ot tc fA fc, e = .returned (.tuple #[.slice (some ⟨b, off, none⟩) 2 c, .bool true]) ∧ KnAt w' w'.heap.size b off bt_ ot tc fA fc) ∧ Below w.heap.size w w' := by
  refine (rows_any _ w (by decide)).mono ?_
  rintro e w' ⟨⟨A, n, c, rfl, hR⟩, hb⟩
  rw [kn_rows] at hR ⊢
  simp only [Bool.false_eq_true, if_false] at hR
  obtain ⟨l, hl, hr, ha⟩ := hR
  obtain ⟨x, y, rfl⟩ : ∃ x y, l = [x, y] := by
    have := congrArg List.length hl
    rw [List.length_map] at this
    rcases l with _ | ⟨x, _ | ⟨y, _ | ⟨z, l⟩⟩⟩ <;> simp at this
    exact ⟨x, y, rfl⟩
  obtain rfl : 2 = n := hr.1
  obtain ⟨row, tA, tc, fA, fc⟩ := x
  obtain ⟨row2, tA2, tc2, fA2, fc2⟩ := y
  simp only [List.map_cons, List.map_nil, List.cons.injEq, and_true] at hl
  obtain ⟨hl1, hl2⟩ := hl
  subst hl1 hl2
  obtain ⟨ht, hf⟩ := ha _ (List.mem_cons_of_mem _ List.mem_cons_self)
  obtain ⟨b, off, rfl, hbl, hc⟩ := hr.2 (by omega)
  obtain ⟨b2, off2, e2, hbl2, hc2⟩ := ht.2 (by simp)
  simp only at e2
  subst e2
  refine ⟨⟨b, off, c, b2, off2, tc2, fA2, fc2, rfl, ⟨hbl, hbl2⟩, ⟨hc 0 _ 0 _ rfl rfl, hc 0 _ 5 _ rfl rfl, hc 0 _ 6 _ rfl rfl⟩, ⟨hc 1 _ 0 _ rfl rfl, hc 1 _ 1 _ rfl rfl, hc 1 _ 2 _ rfl rfl, hc 1 _ 3 _ rfl rfl, hc 1 _ 4 _ rfl rfl, hc 1 _ 5 _ rfl rfl, hc 1 _ 6 _ rfl rfl, hc 1 _ 7 _ rfl rfl, hc 1 _ 8 _ rfl rfl, hc 1 _ 9 _ rfl rfl⟩, hc2 0 _ 1 _ rfl rfl, hc2 0 _ 3 _ rfl rfl⟩, hb⟩
theorem knR2 (w : World) : Calls Tryd.prog 9 #[.string ⟨#[97, 32, 49, 10]⟩] w fun e w' => (∃ A n c, e = .returned (.tuple #[.slice A n c, .bool false])) ∧ Below w.heap.size w w' := by
  refine (rows_any _ w (by decide)).mono ?_
  rintro e w' ⟨⟨A, n, c, rfl, hR⟩, hb⟩
  rw [kn_no]
  exact ⟨⟨A, n, c, rfl⟩, hb⟩
set_option maxRecDepth 100000 in
set_option maxHeartbeats 6400000 in
theorem known17_any (m : Int) (w : World) (hm : MxAt w m) :
    Calls Tryd.prog 8 #[] w fun e w' => e = .returned (.bool true) ∧ Below w.heap.size w w' := by
  have kB1 := fun W => knB _ _ kn1 (by decide) W
  have kB2 := fun W => knB _ _ kn2 (by decide) W
  have kB3 := fun W => knB _ _ kn3 (by decide) W
  go_enter Tryd.func8, Tryd.ntmps8
  go_wp2_with (first
    | (go_at_call 9; (with_reducible refine (knR _).mono ?_); rintro e w1 ⟨⟨b, off, c, bt_, ot, tc, fA, fc, rfl, hK⟩, hb1⟩; have z1 := hb1.size)
    | (go_at_call 9; (with_reducible refine (knR2 _).mono ?_); rintro e w2 ⟨⟨A2, n2, c2, rfl⟩, hb2⟩; have K2 := hK.below hb2; have z2 := hb2.size; have B2 := bl_any hb1 hb2; have K2' := K2; obtain ⟨_, _, ⟨c0, c1, c2, c3, c4, c5, c6, c7, c8, c9⟩, _⟩ := K2')
    | (go_at_call 11; (with_reducible refine (kB1 _).mono ?_); rintro e w3 ⟨rfl, hb3⟩; have K3 := (K2.below ((Below.refl _ _).alloc (Nat.le_trans (Nat.le_refl _) z2) _)).below (hb3.mono (by simp; omega)); have X3 := (Blk.new w2 _ _).below hb3 (by simp); have z3 := hb3.size; have B3 := bl_any (bl_alloc B2 _) hb3)
    | (go_at_call 11; (with_reducible refine (kB2 _).mono ?_); rintro e w4 ⟨rfl, hb4⟩; have K4 := K3.below (hb4.mono (by simp at z3; omega)); have X4 := X3.below hb4 (by simp at z3; omega); have B4 := bl_any B3 hb4; have z4 := hb4.size)
    | (go_at_call 11; (with_reducible refine (kB3 _).mono ?_); rintro e w5 ⟨rfl, hb5⟩; have K5 := K4.below (hb5.mono (by simp at z3; omega)); have X5 := X4.below hb5 (by simp at z3; omega); have B5 := bl_any B4 hb5; obtain ⟨_, ⟨d0, d5, d6⟩, _, t1, t3⟩ := K5; have x1 := Blk.cell X5 1; have x2 := Blk.cell X5 2; have x3 := Blk.cell X5 3; have x5 := Blk.cell X5 5; have x7 := Blk.cell X5 7; have x8 := Blk.cell X5 8; simp at x1 x2 x3 x5 x7 x8)
    | (go_at_call 13; (with_reducible refine (knQ m _ (hm.below B5)).mono ?_); rintro e w6 ⟨rfl, hb6⟩; have B6 := bl_any B5 hb6)
    | (go_at_call 15; (with_reducible refine (knH m _ (hm.below B6)).mono ?_); rintro e w7 ⟨rfl, hb7⟩; have B7 := bl_any B6 hb7))
  go_ret
  exact ⟨rfl, B7⟩
end Go.Proofs.YtdngieihlcknmaaDoor
