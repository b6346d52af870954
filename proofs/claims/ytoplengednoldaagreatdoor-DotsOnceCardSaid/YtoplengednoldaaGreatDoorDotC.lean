/- The walks of package dotsread: a text: Bad, Rows. -/
import Derived.Test.YtoplengednoldaaGreatDoorDotB
import Derived.Test.YtoplengednoldaaGreatDoorMgPl8
namespace Go.Proofs.YtoplengednoldaaGreatDoor
set_option linter.unusedVariables false
set_option linter.unusedSimpArgs false
open Go.RowKit
/-- The loop over lines: how far, what was read. -/
def DReadR (l : List UInt8) (f a : Nat) (no : Bool) (acc : List MRow) (R : List MRow × Nat × Bool) : Prop :=
  (no = false ∧ l.length < f + a ∧ rowsGo dotLineS l f a acc = R) ∨ (no = true ∧ R.2 = (a, true))
theorem RX.drow {w0 w w' : World} {r g : Nat} {rv : Value} {s : ByteArray} {a a' : Nat} {no no' : Bool} {acc : List VRow} {R : MRow} (h : RX w0 w r g rv s a no acc) (k : OneRow w r g rv s w0.heap.size acc.length (acc.flatMap rowCell) R a' no' w') : ∃ rv' x, RX w0 w' r g rv' s a' no' (acc ++ [x]) ∧ x.row = R := by
  obtain ⟨rv', x, hx, k1, k2, k3, k4, k5⟩ := k
  exact ⟨rv', x, h.line k1 k2 k3 k4 k5, hx⟩
set_option maxRecDepth 100000 in
set_option maxHeartbeats 6400000 in
theorem dread_any (s : ByteArray) (w : World) (hs : s.size ≤ 1048576) :
    Calls Tryz.prog 20 #[.string s] w fun e w' => ∃ r g rv no acc, e = .returned (.pointer (some ⟨r, 0, none⟩)) ∧ RX w w' r g rv s (dotRows s.data.toList).2.1 no acc ∧ (dotRows s.data.toList).2.2 = no ∧ (no = false → (dotRows s.data.toList).1 = acc.map VRow.row) := by
  suffices hh : Calls Tryz.prog 20 #[.string s] w fun e w' => ∃ r rv a no acc, e = .returned (.pointer (some ⟨r, 0, none⟩)) ∧ RX w w' r w.heap.size rv s a no acc ∧ (dotRows s.data.toList).2 = (a, no) ∧ (no = false → (dotRows s.data.toList).1 = acc.map VRow.row) by
    refine hh.mono ?_
    rintro e w' ⟨r, rv, a, no, acc, h1, h2, h3, h4⟩
    exact ⟨r, _, rv, no, acc, h1, by rw [h3]; exact h2, by rw [h3], h4⟩
  have hs2 : s.size ≤ 4611686018427387904 := Nat.le_trans hs (by decide)
  have HL : Hid (s.data.toList.length = s.size) := Lib.hid (by simp)
  have H0 : Hid (DReadR s.data.toList (s.data.toList.length + 1) 0 false [] (dotRows s.data.toList)) := Lib.hid (.inl ⟨rfl, by omega, rfl⟩)
  generalize dotRows s.data.toList = R at H0 ⊢
  have kN := new_any s w
  go_enter Tryz.func20, Tryz.ntmps20
  go_wp2_with (go_at_call 36; refine kN.mono ?_; rintro e w1 ⟨rfl, h1, hb1, hlt1⟩)
  have hbz := hb1.size
  have RX0 : RX w (w1.alloc (.cells #[.pointer (some ⟨w.heap.size, 0, none⟩), .slice none 0 0] 79)) w1.heap.size w.heap.size (.slice none 0 0) s 0 false [] :=
    ⟨Blk.new w1 _ _, h1.alloc _, World.ownsRow_nil _ _ _ _, by simp, hb1.alloc (by omega) _, by omega, by omega, Nat.le_refl _⟩
  generalize w1.alloc (.cells #[.pointer (some ⟨w.heap.size, 0, none⟩), .slice none 0 0] 79) = wi at RX0 ⊢
  generalize hg : w.heap.size = g at RX0 ⊢
  generalize w1.heap.size = r at RX0 ⊢
  clear h1 hb1 hlt1 kN hbz
  go_loopw [8] (fun _ wr => ∃ (a f : Nat) (no : Bool) (acc : List VRow) (rv : Value), a ≤ s.size ∧ acc.length ≤ a + 1 ∧ (no = false → acc.length ≤ a) ∧ RX w wr r g rv s a no acc ∧ Hid (DReadR s.data.toList f a no (acc.map VRow.row) R)) (fun _ wr => mOf wr g s)
  case atStart => exact ⟨0, _, false, [], _, by omega, by simp, by simp, RX0, H0⟩
  case round =>
    clear RX0 H0
    obtain ⟨a, f, no, acc, rv, ha, hacc, hacc2, hX, HI⟩ := hrel
    have hm0 := hX.sc.mOf
    obtain ⟨x0, x1, x2⟩ := hX.rd.facts
    have kS := fun W h => stopped_any g s a no W h
    cases no
    case true =>
      have hR : R.2 = (a, true) := by
        rcases HI.out with ⟨h1, _⟩ | ⟨_, h2⟩
        · cases h1
        · exact h2
      have HR := Lib.hid hR
      clear HI hacc2 hR
      go_wp2_with (go_at_call 21; (with_reducible refine (kS _ hX.sc).mono ?_); rintro e w2 ⟨rfl, rfl⟩)
      go_ret
      subst hg
      exact ⟨_, _, _, _, _, rfl, hX, HR.out, fun e => by cases e⟩
    case false =>
      have hacc3 : acc.length ≤ a := hacc2 rfl
      clear hacc2
      obtain ⟨hf, hI⟩ : s.data.toList.length < f + a ∧ rowsGo dotLineS s.data.toList f a (acc.map VRow.row) = R := by
        rcases HI.out with ⟨_, h2, h3⟩ | ⟨h1, _⟩
        · exact ⟨h2, h3⟩
        · cases h1
      rw [HL.out] at hf
      obtain ⟨f, rfl⟩ : ∃ f', f = f' + 1 := ⟨f - 1, by omega⟩
      clear HI
      unfold rowsGo at hI
      have kE := fun W h => end_any g s a false W h
      by_cases hlt : a < s.size
      case neg =>
        have he : (a == s.size) = true := by rw [beq_iff_eq]; omega
        rw [if_pos (by rw [HL.out]; omega)] at hI
        have HR := Lib.hid hI
        clear hI
        rw [he] at kE
        go_wp2_with (first
          | (go_at_call 21; (with_reducible refine (kS _ hX.sc).mono ?_); rintro e w2 ⟨rfl, rfl⟩)
          | (go_at_call 37; (with_reducible refine (kE _ hX.sc).mono ?_); rintro e w11 ⟨rfl, h11, hA11⟩; have L11 := hX.scan hA11 h11 (by simp)))
        go_ret
        subst hg
        exact ⟨_, _, _, _, _, rfl, L11, by rw [← HR.out], fun _ => by rw [← HR.out]⟩
      case pos =>
        have he : (a == s.size) = false := by rw [beq_eq_false_iff_ne]; omega
        rw [if_neg (by rw [HL.out]; omega)] at hI
        rw [he] at kE
        obtain ⟨M, p, np, hM⟩ : ∃ M p np, dotLineS s.data.toList a = (M, p, np) := ⟨_, _, _, rfl⟩
        have hle := dotLineS_le (l := s.data.toList) (a := a) (by rw [HL.out]; omega)
        have hlt2 := dotLine_lt (l := s.data.toList) (a := a) (by rw [HL.out]; omega)
        rw [hM] at hI hle hlt2
        rw [HL.out] at hle
        simp only at hI hle hlt2
        have kL := fun W rv hl ho hb => dline_any r g rv s a M p np w.heap.size acc.length (acc.flatMap rowCell) W hl ho hb (by omega) hlt hs hM
        have HI2 : ∀ x : VRow, x.row = M → Hid (DReadR s.data.toList f p np ((acc ++ [x]).map VRow.row) R) := fun x hx => Lib.hid (by
          cases np
          · rw [if_neg (by decide)] at hI
            refine .inl ⟨rfl, by have := hlt2 rfl; rw [HL.out]; omega, ?_⟩
            rw [List.map_append, List.map_cons, List.map_nil, hx]; exact hI
          · rw [if_pos rfl] at hI
            exact .inr ⟨rfl, by rw [← hI]⟩)
        have hlt3 : np = false → a < p := fun h => hlt2 h
        clear hI hlt2 hM
        go_wp2_with (first
          | (go_at_call 21; (with_reducible refine (kS _ hX.sc).mono ?_); rintro e w2 ⟨rfl, rfl⟩)
          | (go_at_call 37; (with_reducible refine (kE _ hX.sc).mono ?_); rintro e w11 ⟨rfl, h11, hA11⟩; have L11 := hX.scan hA11 h11 (by simp); obtain ⟨z0, z1, z2⟩ := L11.rd.facts)
          | (go_at_call 38; (with_reducible refine (kL _ _ L11.lr L11.own L11.bl.size).mono ?_); rintro e w3 ⟨rfl, h3⟩; obtain ⟨rv3, x3, L9, hm3⟩ := L11.drow h3))
        refine ⟨⟨p, f, np, acc ++ [x3], rv3, hle.2, by simp; omega, fun h => by have := hlt3 h; simp; omega, L9, HI2 x3 hm3⟩, ?_⟩
        rw [L9.sc.mOf, hm0]
        cases np
        · have := hlt3 rfl; simp; omega
        · simp; omega
set_option maxHeartbeats 1600000 in
theorem dbad_any (s : ByteArray) (w : World) (hs : s.size ≤ 1048576) :
    Calls Tryz.prog 11 #[.string s] w fun e w' => e = .returned (.int .i64 (dotBad s.data.toList)) ∧ Below w.heap.size w w' := by
  have kR := dread_any s w hs
  unfold dotBad
  generalize dotRows s.data.toList = R at kR ⊢
  obtain ⟨R1, Ra, Rn⟩ := R
  go_enter Tryz.func11, Tryz.ntmps11
  go_upto_region 2 with (go_at_call 20; refine kR.mono ?_; rintro e w1 ⟨r, g, rv, no, acc, rfl, h1, hR, hR2⟩; obtain rfl : Rn = no := hR; obtain ⟨x0, x1, x2⟩ := h1.rd.facts; have kS := stopped_any g s Ra Rn w1 h1.sc; have kA := at_any g s Ra Rn w1 h1.sc)
  clear kR
  cases Rn
  all_goals
    go_wp2_with (first
      | (go_at_call 21; refine kS.mono ?_; rintro e w2 ⟨rfl, rfl⟩)
      | (go_at_call 23; refine kA.mono ?_; rintro e w3 ⟨rfl, rfl⟩))
    go_ret
    exact ⟨rfl, h1.bl⟩
set_option maxHeartbeats 1600000 in
theorem drows_any (s : ByteArray) (w : World) (hs : s.size ≤ 1048576) :
    Calls Tryz.prog 9 #[.string s] w fun e w' => RowsE (dotRows s.data.toList) e w' ∧ Below w.heap.size w w' := by
  have kR := dread_any s w hs
  generalize dotRows s.data.toList = R at kR ⊢
  obtain ⟨R1, Ra, Rn⟩ := R
  go_enter Tryz.func9, Tryz.ntmps9
  go_upto_region 2 with (go_at_call 20; refine kR.mono ?_; rintro e w1 ⟨r, g, rv, no, acc, rfl, h1, hR, hR2⟩; obtain rfl : Rn = no := hR; obtain ⟨x0, x1, x2⟩ := h1.rd.facts; have kS := stopped_any g s Ra Rn w1 h1.sc; obtain ⟨A, c, rfl, hrows⟩ := h1.has)
  clear kR
  cases Rn
  · have hR1 : R1 = acc.map VRow.row := hR2 rfl
    rw [← hR1] at hrows
    clear hR2 hR1
    go_wp2_with (go_at_call 21; refine kS.mono ?_; rintro e w2 ⟨rfl, rfl⟩)
    go_ret2
    exact ⟨rowsE_yes hrows, h1.bl⟩
  · go_wp2_with (go_at_call 21; refine kS.mono ?_; rintro e w2 ⟨rfl, rfl⟩)
    go_ret2
    exact ⟨rowsE_no, h1.bl⟩
end Go.Proofs.YtoplengednoldaaGreatDoor
