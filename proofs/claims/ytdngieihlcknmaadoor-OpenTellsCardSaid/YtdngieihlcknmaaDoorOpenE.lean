/- The walks of package openword: a line, a text. -/
import Derived.Test.YtdngieihlcknmaaDoorOpenD
namespace Go.Proofs.YtdngieihlcknmaaDoor
set_option linter.unusedVariables false
set_option linter.unusedSimpArgs false
open Go.RowKit
theorem OneRow.rebase {w w1 w' : World} {r g : Nat} {rv : Value} {s : ByteArray} {a : Nat} {no : Bool} {base n : Nat} {xs : List Value} {R : MRow} {a' : Nat} {no' : Bool} (h : LR w w1 r g rv s a no) (k : OneRow w1 r g rv s base n xs R a' no' w') : OneRow w r g rv s base n xs R a' no' w' := by
  obtain ⟨rv', x, h1, h2, h3, h4, h5, h6⟩ := k
  exact ⟨rv', x, h1, h2, h3, h4, h5, (h.aw.mono (by simp)).trans h6⟩
/-- What a line's walk shows: one more row, or none. -/
def OLine (w : World) (r g : Nat) (rv : Value) (s : ByteArray) (base n : Nat) (xs : List Value) (a' : Nat) (no' : Bool) (w' : World) : Option MRow → Prop
  | some R => OneRow w r g rv s base n xs R a' no' w'
  | none => LR w w' r g rv s a' no'
set_option maxRecDepth 100000 in
set_option maxHeartbeats 6400000 in
theorem oline_any (r g : Nat) (rv : Value) (s : ByteArray) (a : Nat) (q : Option MRow) (last : Bool) (a' : Nat) (no' : Bool) (base n : Nat) (xs : List Value) (w : World) (h : LR w w r g rv s a false) (hown : w.ownsRow base 42 10 rv n xs) (hb : base ≤ w.heap.size) (hn : n ≤ 1048577) (ha : a ≤ s.size) (hs : s.size ≤ 1048576) (hR : olineS s.data.toList a = ((q, last), a', no')) :
    Calls Tryd.prog 30 #[.pointer (some ⟨r, 0, none⟩)] w fun e w' => e = .returned (.bool last) ∧ OLine w r g rv s base n xs a' no' w' q := by
  have hL : s.data.toList.length = s.size := by simp
  have hs2 : s.size ≤ 4611686018427387904 := Nat.le_trans hs (by decide)
  have hg := h.sc
  have x0 := h.facts
  have kI := fun W h => is_any g s a false 35 W h ha hs2
  unfold olineS at hR
  cases hq : isB s.data.toList a false 35
  case false =>
    rw [if_neg (by rw [hq]; decide)] at hR
    rw [hq] at kI
    obtain ⟨R, p, np, hM⟩ : ∃ R p np, sampS s.data.toList a false = (R, p, np) := ⟨_, _, _, rfl⟩
    simp only [hM] at hR
    obtain ⟨rfl, rfl, rfl, rfl⟩ : some R = q ∧ false = last ∧ p = a' ∧ np = no' := by
      injection hR with e1 e2; injection e1 with e3 e4; injection e2 with e5 e6; exact ⟨e3, e4, e5, e6⟩
    have kS := fun W h ho hb => samp_any r g rv s a false R p np base n xs W h ho hb hn ha hs hM
    clear hR hM hq hL
    go_enter Tryd.func30, Tryd.ntmps30
    go_wp2_with (first
      | (go_at_call 43; (with_reducible refine (kI _ h.sc).mono ?_); rintro e w1 ⟨rfl, h1, hA1⟩; have L1 := h.scan hA1 h1 (by simp); have hown1 := own_aw hown hA1 (by simp))
      | (go_at_call 44; (with_reducible refine (kS _ L1.self hown1 (Nat.le_trans hb L1.aw.size)).mono ?_); rintro e w2 ⟨rfl, h2⟩))
    go_ret
    exact ⟨rfl, OneRow.rebase L1 h2⟩
  case true =>
    rw [if_pos hq] at hR
    rw [hq] at kI
    obtain ⟨b, n1, hw⟩ : ∃ b n1, wordS s.data.toList wHash a false = (b, n1) := ⟨_, _, rfl⟩
    simp only [hw] at hR
    have hl1 := wordS_le s.data.toList wHash a false (by rw [hL]; exact ha)
    rw [hw, hL] at hl1
    simp only at hl1
    have kW := fun W h => word_any g s ⟨#[35, 32]⟩ a false b n1 W h ha hs2 (by decide) hw
    have kT := fun W h => is_any g s b n1 84 W h hl1.2 hs2
    have kU := fun W h => is_any g s b n1 85 W h hl1.2 hs2
    have kH := fun W h => is_any g s b n1 72 W h hl1.2 hs2
    have own2 : ∀ W1 S, Aw S w W1 → (∀ i, i ∈ S → i = g) → W1.ownsRow base 42 10 rv n xs := fun W1 S k hS => own_aw hown k (fun i hi e => by have := hS _ e; subst this; exact own_blk_ne hown hg (by decide) hi)
    clear hw hq hL
    cases hT : isB s.data.toList b n1 84
    case true =>
      rw [if_pos hT] at hR
      rw [hT] at kT
      obtain ⟨R, p, np, hM⟩ : ∃ R p np, otoldS s.data.toList 1 wType b n1 = (R, p, np) := ⟨_, _, _, rfl⟩
      simp only [hM] at hR
      obtain ⟨rfl, rfl, rfl, rfl⟩ : some R = q ∧ false = last ∧ p = a' ∧ np = no' := by
        injection hR with e1 e2; injection e1 with e3 e4; injection e2 with e5 e6; exact ⟨e3, e4, e5, e6⟩
      have kS := fun W h ho hb => told1_any ⟨#[84, 89, 80, 69]⟩ wType (by rfl) (by decide) r g rv s b n1 R p np base n xs W h ho hb hn hl1.2 hs hM
      clear hR hM
      go_enter Tryd.func30, Tryd.ntmps30
      go_wp2_with (first
        | (go_at_call 43; (with_reducible refine (kI _ h.sc).mono ?_); rintro e w1 ⟨rfl, h1, hA1⟩; have L1 := h.scan hA1 h1 (by simp); have x1 := L1.facts)
        | (go_at_call 32; (with_reducible refine (kW _ L1.sc).mono ?_); rintro e w2 ⟨rfl, h2, hA2⟩; have L2 := L1.scan hA2 h2 (by simp); have x2 := L2.facts)
        | (go_at_call 43; (with_reducible refine (kT _ L2.sc).mono ?_); rintro e w3 ⟨rfl, h3, hA3⟩; have L3 := L2.scan hA3 h3 (by simp); have x3 := L3.facts)
          | (go_at_call 45; (with_reducible refine (kS _ L3.self (own2 _ _ L3.aw (by simp)) (Nat.le_trans hb L3.aw.size)).mono ?_); rintro e w9 ⟨rfl, h9⟩))
      go_ret
      exact ⟨rfl, OneRow.rebase L3 h9⟩
    case false =>
      rw [if_neg (by rw [hT]; decide)] at hR
      rw [hT] at kT
      cases hU : isB s.data.toList b n1 85
      case true =>
        rw [if_pos hU] at hR
        rw [hU] at kU
        obtain ⟨R, p, np, hM⟩ : ∃ R p np, otoldS s.data.toList 2 wUnit b n1 = (R, p, np) := ⟨_, _, _, rfl⟩
        simp only [hM] at hR
        obtain ⟨rfl, rfl, rfl, rfl⟩ : some R = q ∧ false = last ∧ p = a' ∧ np = no' := by
          injection hR with e1 e2; injection e1 with e3 e4; injection e2 with e5 e6; exact ⟨e3, e4, e5, e6⟩
        have kS := fun W h ho hb => told2_any ⟨#[85, 78, 73, 84]⟩ wUnit (by rfl) (by decide) r g rv s b n1 R p np base n xs W h ho hb hn hl1.2 hs hM
        clear hR hM
        go_enter Tryd.func30, Tryd.ntmps30
        go_wp2_with (first
          | (go_at_call 43; (with_reducible refine (kI _ h.sc).mono ?_); rintro e w1 ⟨rfl, h1, hA1⟩; have L1 := h.scan hA1 h1 (by simp); have x1 := L1.facts)
          | (go_at_call 32; (with_reducible refine (kW _ L1.sc).mono ?_); rintro e w2 ⟨rfl, h2, hA2⟩; have L2 := L1.scan hA2 h2 (by simp); have x2 := L2.facts)
          | (go_at_call 43; (with_reducible refine (kT _ L2.sc).mono ?_); rintro e w3 ⟨rfl, h3, hA3⟩; have L3 := L2.scan hA3 h3 (by simp); have x3 := L3.facts)
          | (go_at_call 43; (with_reducible refine (kU _ L3.sc).mono ?_); rintro e w4 ⟨rfl, h4, hA4⟩; have L4 := L3.scan hA4 h4 (by simp); have x4 := L4.facts)
            | (go_at_call 45; (with_reducible refine (kS _ L4.self (own2 _ _ L4.aw (by simp)) (Nat.le_trans hb L4.aw.size)).mono ?_); rintro e w9 ⟨rfl, h9⟩))
        go_ret
        exact ⟨rfl, OneRow.rebase L4 h9⟩
      case false =>
        rw [if_neg (by rw [hU]; decide)] at hR
        rw [hU] at kU
        cases hH : isB s.data.toList b n1 72
        case true =>
          rw [if_pos hH] at hR
          rw [hH] at kH
          obtain ⟨R, p, np, hM⟩ : ∃ R p np, otoldS s.data.toList 3 wHelp b n1 = (R, p, np) := ⟨_, _, _, rfl⟩
          simp only [hM] at hR
          obtain ⟨rfl, rfl, rfl, rfl⟩ : some R = q ∧ false = last ∧ p = a' ∧ np = no' := by
            injection hR with e1 e2; injection e1 with e3 e4; injection e2 with e5 e6; exact ⟨e3, e4, e5, e6⟩
          have kS := fun W h ho hb => told3_any ⟨#[72, 69, 76, 80]⟩ wHelp (by rfl) (by decide) r g rv s b n1 R p np base n xs W h ho hb hn hl1.2 hs hM
          clear hR hM
          go_enter Tryd.func30, Tryd.ntmps30
          go_wp2_with (first
            | (go_at_call 43; (with_reducible refine (kI _ h.sc).mono ?_); rintro e w1 ⟨rfl, h1, hA1⟩; have L1 := h.scan hA1 h1 (by simp); have x1 := L1.facts)
            | (go_at_call 32; (with_reducible refine (kW _ L1.sc).mono ?_); rintro e w2 ⟨rfl, h2, hA2⟩; have L2 := L1.scan hA2 h2 (by simp); have x2 := L2.facts)
            | (go_at_call 43; (with_reducible refine (kT _ L2.sc).mono ?_); rintro e w3 ⟨rfl, h3, hA3⟩; have L3 := L2.scan hA3 h3 (by simp); have x3 := L3.facts)
            | (go_at_call 43; (with_reducible refine (kU _ L3.sc).mono ?_); rintro e w4 ⟨rfl, h4, hA4⟩; have L4 := L3.scan hA4 h4 (by simp); have x4 := L4.facts)
            | (go_at_call 43; (with_reducible refine (kH _ L4.sc).mono ?_); rintro e w5 ⟨rfl, h5, hA5⟩; have L5 := L4.scan hA5 h5 (by simp); have x5 := L5.facts)
              | (go_at_call 45; (with_reducible refine (kS _ L5.self (own2 _ _ L5.aw (by simp)) (Nat.le_trans hb L5.aw.size)).mono ?_); rintro e w9 ⟨rfl, h9⟩))
          go_ret
          exact ⟨rfl, OneRow.rebase L5 h9⟩
        case false =>
          rw [if_neg (by rw [hH]; decide)] at hR
          rw [hH] at kH
          obtain ⟨p, np, hM⟩ : ∃ p np, wordS s.data.toList wEOF b n1 = (p, np) := ⟨_, _, rfl⟩
          simp only [hM] at hR
          obtain ⟨rfl, rfl, rfl, rfl⟩ : none = q ∧ true = last ∧ p = a' ∧ np = no' := by
            injection hR with e1 e2; injection e1 with e3 e4; injection e2 with e5 e6; exact ⟨e3, e4, e5, e6⟩
          have kF := fun W h => word_any g s ⟨#[69, 79, 70]⟩ b n1 p np W h hl1.2 hs2 (by decide) hM
          clear hR hM
          go_enter Tryd.func30, Tryd.ntmps30
          go_wp2_with (first
            | (go_at_call 43; (with_reducible refine (kI _ h.sc).mono ?_); rintro e w1 ⟨rfl, h1, hA1⟩; have L1 := h.scan hA1 h1 (by simp); have x1 := L1.facts)
            | (go_at_call 32; (with_reducible refine (kW _ L1.sc).mono ?_); rintro e w2 ⟨rfl, h2, hA2⟩; have L2 := L1.scan hA2 h2 (by simp); have x2 := L2.facts)
            | (go_at_call 43; (with_reducible refine (kT _ L2.sc).mono ?_); rintro e w3 ⟨rfl, h3, hA3⟩; have L3 := L2.scan hA3 h3 (by simp); have x3 := L3.facts)
            | (go_at_call 43; (with_reducible refine (kU _ L3.sc).mono ?_); rintro e w4 ⟨rfl, h4, hA4⟩; have L4 := L3.scan hA4 h4 (by simp); have x4 := L4.facts)
            | (go_at_call 43; (with_reducible refine (kH _ L4.sc).mono ?_); rintro e w5 ⟨rfl, h5, hA5⟩; have L5 := L4.scan hA5 h5 (by simp); have x5 := L5.facts)
            | (go_at_call 32; (with_reducible refine (kF _ L5.sc).mono ?_); rintro e w9 ⟨rfl, h9, hA9⟩; have L9 := L5.scan hA9 h9 (by simp)))
          go_ret
          exact ⟨rfl, L9⟩
end Go.Proofs.YtdngieihlcknmaaDoor
