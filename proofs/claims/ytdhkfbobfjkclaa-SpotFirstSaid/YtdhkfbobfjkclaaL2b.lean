/- SpotAhead: the plain law, and its walk. -/
import Derived.Test.YtdhkfbobfjkclaaL2a
import Derived.Deep.QuietTactic
import Derived.BigQuiet
namespace Go.Proofs.Ytdhkfbobfjkclaa
open Go.RowKit
/-! ### the plain law -/
theorem line_mono (l : List UInt8) (m : Nat) : ∀ d : Nat, lineOf l m ≤ lineOf l (m + d) ∧ (lineOf l m = lineOf l (m + d) → colOf l (m + d) - colOf l m = d)
  | 0 => ⟨Int.le_refl _, fun _ => by simp⟩
  | d + 1 => by
    obtain ⟨h1, h2⟩ := line_mono l m d
    rw [show m + (d + 1) = (m + d) + 1 from rfl, lineOf, colOf]
    by_cases hc : bt l (m + d) = 10
    · rw [if_pos hc, if_pos hc]; exact ⟨by omega, fun h => by omega⟩
    · rw [if_neg hc, if_neg hc]; exact ⟨h1, fun h => by have := h2 h; omega⟩
theorem flt_at (s : ByteArray) (a : Int) (h0 : 0 ≤ a) (h1 : a ≤ s.size) : fltO 11 s a = a ∧ fltL 11 s a = lineOf s.data.toList a.toNat ∧ fltC 11 s a = colOf s.data.toList a.toNat := by
  have e : clampO s.size a = a := by unfold clampO; omega
  simp [fltO, fltL, fltC, spotO, spotL, spotC, e]
theorem spot_at (s : ByteArray) (a : Int) (h0 : 0 ≤ a) (h1 : a ≤ s.size) : spotO s a = a ∧ spotL s a = fltL 11 s a ∧ spotC s a = fltC 11 s a := by
  have e : clampO s.size a = a := by unfold clampO; omega
  simp [fltL, fltC, spotO, spotL, spotC, e]
theorem ahead_law (s : ByteArray) (a b : Int) (h0 : 0 ≤ a) (h1 : a ≤ s.size) (h2 : 0 ≤ b) (h3 : b ≤ s.size) : b < a ∨ fltL 11 s a < fltL 11 s b ∨ (fltL 11 s a = fltL 11 s b ∧ fltC 11 s b - fltC 11 s a = b - a) := by
  rw [(flt_at s a h0 h1).2.1, (flt_at s a h0 h1).2.2, (flt_at s b h2 h3).2.1, (flt_at s b h2 h3).2.2]
  by_cases h : b < a
  · exact .inl h
  · obtain ⟨g1, g2⟩ := line_mono s.data.toList a.toNat (b.toNat - a.toNat)
    rw [show a.toNat + (b.toNat - a.toNat) = b.toNat from by omega] at g1 g2
    by_cases e : lineOf s.data.toList a.toNat = lineOf s.data.toList b.toNat
    · have := g2 e; exact .inr (.inr ⟨e, by omega⟩)
    · exact .inr (.inl (by omega))

set_option maxRecDepth 100000 in
set_option maxHeartbeats 1600000 in
theorem ahead_any (s : ByteArray) (i k : Int) (w : World) (hi : 0 ≤ i ∧ i ≤ 65535) (hk : 0 ≤ k ∧ k ≤ 65535) (hs : s.size ≤ 9223372036854775807) :
    Calls Try.prog 8 #[.string s, .int .u16 i, .int .u16 k] w fun e w' => e = .returned (.bool true) ∧ Below w.heap.size w w' := by
  by_cases h300 : 300 < s.size
  · go_enter Try.func8, Try.ntmps8
    go_wp2_with (go_at_call 21; refine (known2_any _).mono ?_; rintro e w1 ⟨rfl, hb1⟩)
    go_ret
    exact ⟨rfl, by repeat (first | exact Below.refl _ _ | assumption | refine bl_trans ?_ (by assumption))⟩
  · have hss : s.size ≤ 4611686018427387903 := by omega
    have hd300 : decide ((300 : Int) < s.size) = false := decide_eq_false (by omega)
    have h3 : s.size ≤ 300 := by omega
    clear h300
    go_enter Try.func8, Try.ntmps8
    go_wp2_with (first
      | (go_at_call 21; refine (known2_any _).mono ?_; rintro e w1 ⟨rfl, hb1⟩))
    go_cut [7, 8] (fun p7 p8 wx => ∃ a b : Int, (0 ≤ a ∧ a ≤ s.size) ∧ (0 ≤ b ∧ b ≤ s.size) ∧ p7 = .int .i64 a ∧ p8 = .int .i64 b ∧ Below w.heap.size w wx)
    case first =>
      have q1 : IntKind.i64.wrap ((s.size : Int) + 1) = s.size + 1 := IntWalk.i64_in _ (by omega)
      go_quiet (fail)
      clear q1
      go_wp2_with fail
      go_meet
      have e1 := Int.emod_nonneg i (b := (s.size : Int) + 1) (by omega)
      have e2 := Int.emod_lt_of_pos i (b := (s.size : Int) + 1) (by omega)
      have e3 := Int.emod_nonneg k (b := (s.size : Int) + 1) (by omega)
      have e4 := Int.emod_lt_of_pos k (b := (s.size : Int) + 1) (by omega)
      exact ⟨_, _, ⟨e1, by omega⟩, ⟨e3, by omega⟩, rfl, rfl, bl_drewN hb1 _⟩
    case rest =>
      obtain ⟨a, b, ha, hb, rfl, rfl, bel⟩ := hcut
      obtain ⟨a0, a1⟩ := ha
      obtain ⟨b0, b1⟩ := hb
      have law := Lib.hid (ahead_law s a b a0 a1 b0 b1)
      have eO := (flt_at s a a0 a1).1
      have eP := (flt_at s b b0 b1).1
      have s0 := (spot_at s a a0 a1).1
      have s1 := (spot_at s a a0 a1).2.1
      have s2 := (spot_at s a a0 a1).2.2
      go_wp2_with fail
      refine (at_any _ _ _ _ hss).mono ?_
      rintro e wA ⟨rfl, hbA⟩
      go_wp2_with fail
      refine (at_any _ _ _ _ hss).mono ?_
      rintro e wB ⟨rfl, hbB⟩
      simp only [eP]
      go_wp2_with fail
      have nf := neqSpot
      go_cut [57] (fun p wx => p = .bool false ∧ ( wx.cell? ⟨wB.heap.size, 0, none⟩ = some (.int .i64 11) ∧ wx.cell? ⟨wB.heap.size, 1, none⟩ = some (.int .i64 a) ∧ wx.cell? ⟨wB.heap.size, 2, none⟩ = some (.int .i64 (fltL 11 s a)) ∧ wx.cell? ⟨wB.heap.size, 3, none⟩ = some (.int .i64 (fltC 11 s a)) ∧ wx.cell? ⟨wB.heap.size + 1, 0, none⟩ = some (.int .i64 11) ∧ wx.cell? ⟨wB.heap.size + 1, 1, none⟩ = some (.int .i64 b) ∧ wx.cell? ⟨wB.heap.size + 1, 2, none⟩ = some (.int .i64 (fltL 11 s b)) ∧ wx.cell? ⟨wB.heap.size + 1, 3, none⟩ = some (.int .i64 (fltC 11 s b))) ∧ Below w.heap.size w wx)
      case first =>
        go_region_held3 (fun w' => w'.cell? ⟨wB.heap.size, 0, none⟩ = some (.int .i64 11) ∧ w'.cell? ⟨wB.heap.size, 1, none⟩ = some (.int .i64 a) ∧ w'.cell? ⟨wB.heap.size, 2, none⟩ = some (.int .i64 (fltL 11 s a)) ∧ w'.cell? ⟨wB.heap.size, 3, none⟩ = some (.int .i64 (fltC 11 s a)) ∧ w'.cell? ⟨wB.heap.size + 1, 0, none⟩ = some (.int .i64 11) ∧ w'.cell? ⟨wB.heap.size + 1, 1, none⟩ = some (.int .i64 b) ∧ w'.cell? ⟨wB.heap.size + 1, 2, none⟩ = some (.int .i64 (fltL 11 s b)) ∧ w'.cell? ⟨wB.heap.size + 1, 3, none⟩ = some (.int .i64 (fltC 11 s b))) (simp [go_sem, *]) (first
          | (go_at_call 28; refine (before_any _ _ _ _ _ _ _).mono ?_; rintro e wC ⟨rfl, hbC⟩; obtain ⟨hcC, hfC⟩ := bcell hbC; have hzC := hbC.size; (try simp at hzC); have hz1 : wB.heap.size < wC.heap.size := (by omega); have hz2 : wB.heap.size + 1 < wC.heap.size := (by omega))
          | (go_at_call 22; refine (of_any _ _ _ hss).mono ?_; rintro e wD ⟨rfl, hbD⟩; obtain ⟨hcD, hfD⟩ := bcell hbD; have hzD := hbD.size; (try simp at hzD); have hz3 : wB.heap.size < wD.heap.size := (by omega); have hz4 : wB.heap.size + 1 < wD.heap.size := (by omega)))
        go_wp2_with fail
        go_meet
        refine ⟨rfl, by simp [go_sem, *], ?_⟩
        repeat (first | exact bel | with_reducible refine Below.drew ?_ | with_reducible refine bl_alloc ?_ _ | with_reducible refine bl_trans ?_ hbD | with_reducible refine bl_trans ?_ hbC | with_reducible refine bl_trans ?_ hbB | with_reducible refine bl_trans ?_ hbA)
      case rest =>
        obtain ⟨rfl, ⟨x0, x1, x2, x3, y0, y1, y2, y3⟩, belx⟩ := hcut
        have cA := (flt_at s a a0 a1).2.2
        have cB := (flt_at s b b0 b1).2.2
        have cA' := colOf_le s.data.toList a.toNat
        have cB' := colOf_le s.data.toList b.toNat
        rw [← cA] at cA'
        rw [← cB] at cB'
        clear cA cB nf eO eP s0 s1 s2
        generalize fltL 11 s a = l1 at *
        generalize fltL 11 s b = l2 at *
        generalize fltC 11 s a = c1 at *
        generalize fltC 11 s b = c2 at *
        have hc1 : c1 ≤ 301 := by omega
        have hc2 : c2 ≤ 301 := by omega
        go_wp2_with fail
        all_goals go_ret
        all_goals refine ⟨ret_bool (bcl ?_), belx⟩
        all_goals have hl := law.out
        all_goals first | (simp; done) | (simp; omega)
end Go.Proofs.Ytdhkfbobfjkclaa
