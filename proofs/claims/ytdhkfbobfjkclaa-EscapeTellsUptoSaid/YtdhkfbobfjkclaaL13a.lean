/- known of the escape laws. -/
import Derived.Test.YtdhkfbobfjkclaaEsc3
namespace Go.Proofs.Ytdhkfbobfjkclaa
open Go.RowKit
/-- internal/bytealg.MaxLen holds some number. -/
def G0 (m : Int) (w : World) : Prop := w.cell? ⟨0, 0, none⟩ = some (.int .i64 m)
theorem G0.bel {m : Int} {w w' : World} (h : G0 m w) (hb : Below w.heap.size w w') : G0 m w' := (hb.cell (p := ⟨0, 0, none⟩) (by have := lt_of_cell h; exact this)).trans h
theorem G0.alloc {m : Int} {w : World} (h : G0 m w) (o : Obj) : G0 m (w.alloc o) := h.bel (by have := bl_alloc (Below.refl w.heap.size w) o; exact this)
theorem G0.drew {m : Int} {w : World} (h : G0 m w) : G0 m w.drew := h
theorem G0.drewN {m : Int} {w : World} (h : G0 m w) (n : Nat) : G0 m (w.drewN n) := h
theorem esc_lit (p wh : Int) (a b : List UInt8) (h : escB p wh a = b) (ha : a.length ≤ 1048576) (w : World) :
    Calls Try.prog 30 #[.int .i64 p, .int .i64 wh, .string ⟨a.toArray⟩] w fun e w' => e = .returned (.string ⟨b.toArray⟩) ∧ Below w.heap.size w w' := by
  subst h; exact escape_any p wh ⟨a.toArray⟩ w ha
theorem back_lit (p wh : Int) (a b : List UInt8) (h : backB p wh a = b) (ha : a.length ≤ 1048576) (m : Int) (w : World) (hm : G0 m w) :
    Calls Try.prog 32 #[.int .i64 p, .int .i64 wh, .string ⟨a.toArray⟩] w fun e w' => e = .returned (.string ⟨b.toArray⟩) ∧ Below w.heap.size w w' := by
  subst h; exact back_any p wh ⟨a.toArray⟩ m w ha hm
theorem undo_lit (a b : List UInt8) (h : undoB a = some b) (ha : a.length ≤ 1048576) (m : Int) (w : World) (hm : G0 m w) :
    Calls Try.prog 35 #[.string ⟨a.toArray⟩] w fun e w' => e = .returned (.tuple #[.string ⟨b.toArray⟩, .bool true]) ∧ Below w.heap.size w w' := by
  have := undo_any ⟨a.toArray⟩ m w ha hm
  unfold undoS at this
  rw [show (⟨a.toArray⟩ : ByteArray).data.toList = a from rfl, h] at this
  exact this
theorem undo_no (a : List UInt8) (h : undoB a = none) (ha : a.length ≤ 1048576) (m : Int) (w : World) (hm : G0 m w) :
    Calls Try.prog 35 #[.string ⟨a.toArray⟩] w fun e w' => e = .returned (.tuple #[.string ⟨#[]⟩, .bool false]) ∧ Below w.heap.size w w' := by
  have := undo_any ⟨a.toArray⟩ m w ha hm
  unfold undoS at this
  rw [show (⟨a.toArray⟩ : ByteArray).data.toList = a from rfl, h] at this
  exact this
theorem k_e1 : escB 1 1 [97, 46, 98] = [97, 95, 120, 50, 101, 98] := by decide +kernel
theorem k_e2 : escB 1 1 [95, 120, 52, 49] = [95, 120, 53, 102, 120, 52, 49] := by decide +kernel
theorem k_e3 : escB 1 1 [95, 120] = [95, 120, 53, 102, 120] := by decide +kernel
theorem k_u1 : undoB [97, 95, 120, 50, 101, 98] = some [97, 46, 98] := by decide +kernel
theorem k_u2 : undoB [97, 95, 120, 50] = none := by decide +kernel
theorem k_b1 : backB 1 1 [95, 120, 52, 49] = [95, 120, 52, 49] := by decide +kernel
theorem k_b2 : backB 1 1 [97, 95, 120, 50, 101, 98] = [97, 46, 98] := by decide +kernel
theorem k_U1 (m : Int) (w : World) (hm : G0 m w) : Calls Try.prog 35 #[.string ⟨#[97, 95, 120, 50, 101, 98]⟩] w fun e w' => e = .returned (.tuple #[.string ⟨#[97, 46, 98]⟩, .bool true]) ∧ Below w.heap.size w w' := undo_lit _ _ k_u1 (by decide) m w hm
theorem k_U2 (m : Int) (w : World) (hm : G0 m w) : Calls Try.prog 35 #[.string ⟨#[97, 95, 120, 50]⟩] w fun e w' => e = .returned (.tuple #[.string ⟨#[]⟩, .bool false]) ∧ Below w.heap.size w w' := undo_no _ k_u2 (by decide) m w hm
theorem k_E1 (w : World) : Calls Try.prog 30 #[.int .i64 1, .int .i64 1, .string ⟨#[97, 46, 98]⟩] w fun e w' => e = .returned (.string ⟨#[97, 95, 120, 50, 101, 98]⟩) ∧ Below w.heap.size w w' := esc_lit 1 1 _ _ k_e1 (by decide) w
theorem k_E2 (w : World) : Calls Try.prog 30 #[.int .i64 1, .int .i64 1, .string ⟨#[95, 120, 52, 49]⟩] w fun e w' => e = .returned (.string ⟨#[95, 120, 53, 102, 120, 52, 49]⟩) ∧ Below w.heap.size w w' := esc_lit 1 1 _ _ k_e2 (by decide) w
theorem k_B1 (m : Int) (w : World) (hm : G0 m w) : Calls Try.prog 32 #[.int .i64 1, .int .i64 1, .string ⟨#[95, 120, 52, 49]⟩] w fun e w' => e = .returned (.string ⟨#[95, 120, 52, 49]⟩) ∧ Below w.heap.size w w' := back_lit 1 1 _ _ k_b1 (by decide) m w hm
theorem k_B2 (m : Int) (w : World) (hm : G0 m w) : Calls Try.prog 32 #[.int .i64 1, .int .i64 1, .string ⟨#[97, 95, 120, 50, 101, 98]⟩] w fun e w' => e = .returned (.string ⟨#[97, 46, 98]⟩) ∧ Below w.heap.size w w' := back_lit 1 1 _ _ k_b2 (by decide) m w hm
theorem k_A (w : World) : Calls Try.prog 34 #[.int .i64 1, .int .i64 1, .slice (some ⟨w.heap.size, 0, none⟩) 2 2] (w.alloc (.cells #[.string ⟨#[97, 46, 98]⟩, .string ⟨#[95, 120]⟩] 9)) fun e w' =>
    ∃ g off cap, e = .returned (.slice (some ⟨g, off, none⟩) 2 cap) ∧ g < w'.heap.size ∧ w'.cell? ⟨g, off, none⟩ = some (.string ⟨#[97, 95, 120, 50, 101, 98]⟩) ∧ w'.cell? ⟨g, off + 1, none⟩ = some (.string ⟨#[95, 120, 53, 102, 120]⟩) ∧ Below (w.alloc (.cells #[.string ⟨#[97, 46, 98]⟩, .string ⟨#[95, 120]⟩] 9)).heap.size (w.alloc (.cells #[.string ⟨#[97, 46, 98]⟩, .string ⟨#[95, 120]⟩] 9)) w' := by
  refine (all_any 1 1 _ 2 2 [(⟨#[97, 46, 98]⟩ : ByteArray), (⟨#[95, 120]⟩ : ByteArray)] _ (IsRows.made (f := strCell) (size := 1) (fun _ => rfl) w 9 #[.string ⟨#[97, 46, 98]⟩, .string ⟨#[95, 120]⟩] [(⟨#[97, 46, 98]⟩ : ByteArray), (⟨#[95, 120]⟩ : ByteArray)] rfl) (by intro s hs; simp at hs; rcases hs with rfl | rfl <;> decide) (by decide)).mono ?_
  rintro e w' ⟨⟨v, rfl, hown⟩, hb⟩
  obtain ⟨A, cap, rfl, hr⟩ := own_rws (f := strCell) (fun _ => rfl) hown rfl
  obtain ⟨g, off, rfl, hg, hc⟩ := hr.2 (by decide)
  have c0 := hc 0 (escS 1 1 ⟨#[97, 46, 98]⟩) 0 _ rfl rfl
  have c1 := hc 1 (escS 1 1 ⟨#[95, 120]⟩) 0 _ rfl rfl
  rw [show escS 1 1 ⟨#[97, 46, 98]⟩ = ⟨#[97, 95, 120, 50, 101, 98]⟩ from by (show (⟨(escB 1 1 [97, 46, 98]).toArray⟩ : ByteArray) = _; rw [k_e1])] at c0
  rw [show escS 1 1 ⟨#[95, 120]⟩ = ⟨#[95, 120, 53, 102, 120]⟩ from by (show (⟨(escB 1 1 [95, 120]).toArray⟩ : ByteArray) = _; rw [k_e3])] at c1
  exact ⟨g, off, cap, rfl, hg, by simpa using c0, by simpa using c1, hb⟩
theorem keep2 {m : Int} {g off : Nat} {s1 s2 : Value} {w w' : World} (h : G0 m w ∧ g < w.heap.size ∧ w.cell? ⟨g, off, none⟩ = some s1 ∧ w.cell? ⟨g, off + 1, none⟩ = some s2) (hb : Below w.heap.size w w') :
    G0 m w' ∧ g < w'.heap.size ∧ w'.cell? ⟨g, off, none⟩ = some s1 ∧ w'.cell? ⟨g, off + 1, none⟩ = some s2 := by
  obtain ⟨h1, h2, h3, h4⟩ := h
  exact ⟨h1.bel hb, Nat.lt_of_lt_of_le h2 hb.size, (hb.cell (p := ⟨g, off, none⟩) h2).trans h3, (hb.cell (p := ⟨g, off + 1, none⟩) h2).trans h4⟩
set_option maxRecDepth 100000 in
set_option maxHeartbeats 3200000 in
theorem known13_any (m : Int) (w : World) (hm : G0 m w) :
    Calls Try.prog 29 #[] w fun e w' => e = .returned (.bool true) ∧ Below w.heap.size w w' := by
  go_enter Try.func29, Try.ntmps29
  go_wp2_with (first
    | (go_at_call 35; with_reducible refine (k_U1 m _ (by assumption)).mono ?_; rintro e w1 ⟨rfl, hb1⟩; have hg1 := hm.bel hb1)
    | (go_at_call 35; with_reducible refine (k_U2 m _ (by assumption)).mono ?_; rintro e w2 ⟨rfl, hb2⟩; have hg2 := hg1.bel hb2)
    | (go_at_call 34; with_reducible refine (k_A _).mono ?_; rintro e w3 ⟨g, off, cap, rfl, hg3', hc0, hc1, hb3⟩; have hg3 := (hg2.alloc _).bel hb3; have hst : G0 m w3 ∧ g < w3.heap.size ∧ _ ∧ _ := ⟨hg3, hg3', hc0, hc1⟩)
    | (go_at_call 30; with_reducible refine (k_E1 _).mono ?_; rintro e w4 ⟨rfl, hb4⟩; have hst4 := keep2 hst hb4)
    | (go_at_call 30; with_reducible refine (k_E2 _).mono ?_; rintro e w7 ⟨rfl, hb7⟩; have hst7 := keep2 hst6 hb7; obtain ⟨_, _, hc0', hc1'⟩ := hst7)
    | (go_at_call 32; with_reducible refine (k_B1 m _ (And.left (by assumption))).mono ?_; rintro e w5 ⟨rfl, hb5⟩; have hst5 := keep2 hst4 hb5)
    | (go_at_call 32; with_reducible refine (k_B2 m _ hst5.1).mono ?_; rintro e w6 ⟨rfl, hb6⟩; have hst6 := keep2 hst5 hb6))
  go_ret
  exact ⟨rfl, by repeat (first | exact Below.refl _ _ | assumption | refine Below.drew ?_ | refine bl_drewN ?_ _ | refine bl_alloc ?_ _ | refine bl_trans ?_ (by assumption))⟩
end Go.Proofs.Ytdhkfbobfjkclaa
