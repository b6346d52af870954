/- The walks of package openword: a text: Bad, Rows. -/
import Derived.Test.YtdngieihlcknmaaDoorOpenE
namespace Go.Proofs.YtdngieihlcknmaaDoor
set_option linter.unusedVariables false
set_option linter.unusedSimpArgs false
open Go.RowKit
theorem oend_no (l : List UInt8) (a : Nat) : oendS l a true = (a, true) := by simp [oendS]
theorem oend_at (l : List UInt8) (a : Nat) (h : (a == l.length) = true) : oendS l a false = (a, false) := by simp [oendS, h]
theorem oend_word (l : List UInt8) (a : Nat) {p : Nat} {n : Bool} (h : (a == l.length) = false) (hW : wordS l [10] a false = (p, n)) : oendS l a false = (p, if p == l.length then n else true) := by
  simp [oendS, h, hW]
theorem wordS_one {l : List UInt8} {c : UInt8} {a : Nat} {no : Bool} (h : (wordS l [c] a no).2 = false) : (wordS l [c] a no).1 = a + 1 := by
  cases no
  · rw [word_step] at h ⊢
    unfold takeA at h ⊢
    cases hq : isB l a false c.toNat
    · rw [hq] at h; simp [wordS] at h
    · simp [wordS]
  · simp [wordS] at h
theorem samp_lt {l : List UInt8} {a : Nat} (ha : a ≤ l.length) (h : (sampS l a false).2.2 = false) : a < (sampS l a false).2.1 := by
  unfold sampS at h ⊢
  simp only at h ⊢
  have h1 := nmS_le (l := l) owName false ha
  generalize nmS l owName a false = n at h h1 ⊢
  have h2 := otagsS_le (l := l) n.2 h1.2
  generalize otagsS l n.1 n.2 = t at h h2 ⊢
  have h3 := wordS_le l [32] t.2.1 t.2.2 h2.2
  generalize wordS l [32] t.2.1 t.2.2 = w at h h3 ⊢
  have h4 := decS_le l w.1 w.2 h3.2
  generalize decS l w.1 w.2 = d at h h4 ⊢
  split at h
  · rename_i hi
    have := (isB_lt hi).1
    have h5 := decS_le l (d.1 + 1) false (by omega)
    rw [if_pos hi]
    simp only at h ⊢
    rw [wordS_one h]; omega
  · rename_i hi
    rw [if_neg hi]
    simp only at h ⊢
    rw [wordS_one h]; omega
theorem told_lt {l : List UInt8} {kind a : Nat} {word : List UInt8} {no : Bool} (ha : a ≤ l.length) (h : (otoldS l kind word a no).2.2 = false) : a < (otoldS l kind word a no).2.1 := by
  unfold otoldS at h ⊢
  simp only at h ⊢
  have h1 := wordS_le l word a no ha
  generalize wordS l word a no = w at h h1 ⊢
  have h2 := nmS_le (l := l) owName w.2 h1.2
  generalize nmS l owName w.1 w.2 = n at h h2 ⊢
  have h3 := wordS_le l [32] n.1 n.2 h2.2
  generalize wordS l [32] n.1 n.2 = b at h h3 ⊢
  have h4 := otextS_le (l := l) (kind := kind) b.2 h3.2
  generalize otextS l kind b.1 b.2 = t at h h4 ⊢
  rw [wordS_one h]; omega
theorem oline_lt {l : List UInt8} {a : Nat} (ha : a ≤ l.length) (h0 : (olineS l a).1.2 = false) (h : (olineS l a).2.2 = false) : a < (olineS l a).2.1 := by
  unfold olineS at h0 h ⊢
  split at h0
  · rename_i hq
    rw [if_pos hq] at h ⊢
    have h1 := wordS_le l wHash a false ha
    simp only at h0 h ⊢
    generalize wordS l wHash a false = w at h0 h h1 ⊢
    split at h0
    · rename_i h2
      rw [if_pos h2] at h ⊢
      have := told_lt h1.2 h
      simp only; omega
    rename_i h2
    rw [if_neg h2] at h ⊢
    split at h0
    · rename_i h3
      rw [if_pos h3] at h ⊢
      have := told_lt h1.2 h
      simp only; omega
    rename_i h3
    rw [if_neg h3] at h ⊢
    split at h0
    · rename_i h4
      rw [if_pos h4] at h ⊢
      have := told_lt h1.2 h
      simp only; omega
    · cases h0
  · rename_i hq
    rw [if_neg hq] at h ⊢
    exact samp_lt ha h
/-- The loop over lines: how far, what was read. -/
def OReadR (l : List UInt8) (f a : Nat) (no : Bool) (acc : List MRow) (R : List MRow × Nat × Bool) : Prop :=
  (no = false ∧ l.length < f + a ∧ orowsGo l f a acc = R) ∨ (no = true ∧ R.2 = (a, true))
theorem RX.oline {w0 w w' : World} {r g : Nat} {rv : Value} {s : ByteArray} {a a' : Nat} {no no' : Bool} {acc : List VRow} {q : Option MRow} (h : RX w0 w r g rv s a no acc) (k : OLine w r g rv s w0.heap.size acc.length (acc.flatMap rowCell) a' no' w' q) : ∃ rv' acc', RX w0 w' r g rv' s a' no' acc' ∧ acc'.map VRow.row = acc.map VRow.row ++ q.toList ∧ acc'.length ≤ acc.length + 1 := by
  cases q with
  | none => exact ⟨rv, acc, h.scan k.aw k.sc (by simp), by simp, by omega⟩
  | some R =>
    obtain ⟨rv', x, hx, k1, k2, k3, k4, k5⟩ := k
    exact ⟨rv', acc ++ [x], h.line k1 k2 k3 k4 k5, by simp [hx], by simp⟩
set_option maxRecDepth 100000 in
set_option maxHeartbeats 6400000 in
theorem oread_any (s : ByteArray) (w : World) (hs : s.size ≤ 1048576) :
    Calls Tryd.prog 19 #[.string s] w fun e w' => ∃ r g rv no acc, e = .returned (.pointer (some ⟨r, 0, none⟩)) ∧ RX w w' r g rv s (openRows s.data.toList).2.1 no acc ∧ (openRows s.data.toList).2.2 = no ∧ (no = false → (openRows s.data.toList).1 = acc.map VRow.row) := by
  suffices hh : Calls Tryd.prog 19 #[.string s] w fun e w' => ∃ r rv a no acc, e = .returned (.pointer (some ⟨r, 0, none⟩)) ∧ RX w w' r w.heap.size rv s a no acc ∧ (openRows s.data.toList).2 = (a, no) ∧ (no = false → (openRows s.data.toList).1 = acc.map VRow.row) by
    refine hh.mono ?_
    rintro e w' ⟨r, rv, a, no, acc, h1, h2, h3, h4⟩
    exact ⟨r, _, rv, no, acc, h1, by rw [h3]; exact h2, by rw [h3], h4⟩
  have hs2 : s.size ≤ 4611686018427387904 := Nat.le_trans hs (by decide)
  have HL : Hid (s.data.toList.length = s.size) := Lib.hid (by simp)
  have H0 : Hid (OReadR s.data.toList (s.data.toList.length + 2) 0 false [] (orowsGo s.data.toList (s.data.toList.length + 2) 0 [])) := Lib.hid (.inl ⟨rfl, by omega, rfl⟩)
  unfold openRows
  simp only
  generalize orowsGo s.data.toList (s.data.toList.length + 2) 0 [] = R at H0 ⊢
  have kN := new_any s w
  go_enter Tryd.func19, Tryd.ntmps19
  go_wp2_with (go_at_call 29; refine kN.mono ?_; rintro e w1 ⟨rfl, h1, hb1, hlt1⟩)
  have hbz := hb1.size
  have RX0 : RX w (w1.alloc (.cells #[.pointer (some ⟨w.heap.size, 0, none⟩), .slice none 0 0] 51)) w1.heap.size w.heap.size (.slice none 0 0) s 0 false [] :=
    ⟨Blk.new w1 _ _, h1.alloc _, World.ownsRow_nil _ _ _ _, by simp, hb1.alloc (by omega) _, by omega, by omega, Nat.le_refl _⟩
  generalize w1.alloc (.cells #[.pointer (some ⟨w.heap.size, 0, none⟩), .slice none 0 0] 51) = wi at RX0 ⊢
  generalize hg : w.heap.size = g at RX0 ⊢
  generalize w1.heap.size = r at RX0 ⊢
  clear h1 hb1 hlt1 kN hbz
  go_loopw [8] (fun _ wr => ∃ (a f : Nat) (no : Bool) (acc : List VRow) (rv : Value), a ≤ s.size ∧ acc.length ≤ a + 1 ∧ (no = false → acc.length ≤ a) ∧ RX w wr r g rv s a no acc ∧ Hid (OReadR s.data.toList f a no (acc.map VRow.row) R)) (fun _ wr => mOf wr g s)
  case atStart => exact ⟨0, _, false, [], _, by omega, by simp, by simp, RX0, H0⟩
  case round =>
    clear RX0 H0
    obtain ⟨a, f, no, acc, rv, ha, hacc, hacc2, hX, HI⟩ := hrel
    have hm0 := hX.sc.mOf
    obtain ⟨x0, x1, x2⟩ := hX.rd.facts
    cases no
    case true =>
      have hR : R.2 = (a, true) := by
        rcases HI.out with ⟨h1, _⟩ | ⟨_, h2⟩
        · cases h1
        · exact h2
      clear HI hacc2
      have kS2 := fun W h => stopped_any g s a true W h
      have kE := fun W h => end_any g s a true W h
      have kSt := fun W h => stop_any g s a true W h
      have hend : oendS s.data.toList R.2.1 R.2.2 = (a, true) := by rw [hR]; exact oend_no _ _
      cases he : (a == s.size)
      all_goals
        rw [he] at kE
        go_wp2_with (first
          | (go_at_call 20; (with_reducible refine (kS2 _ hX.sc).mono ?_); rintro e w10 ⟨rfl, rfl⟩)
          | (go_at_call 31; (with_reducible refine (kE _ hX.sc).mono ?_); rintro e w11 ⟨rfl, h11, hA11⟩; have L11 := hX.scan hA11 h11 (by simp); have x11 := L11.rd.facts.1)
          | (go_at_call 33; (with_reducible refine (kSt _ L11.sc).mono ?_); rintro e w15 ⟨rfl, h15, hA15⟩; have L15 := L11.scan hA15 h15 (by simp)))
        go_ret
        subst hg
        first
        | exact ⟨_, _, _, _, _, rfl, L15, hend, by simp⟩
        | exact ⟨_, _, _, _, _, rfl, L11, hend, by simp⟩
    case false =>
      have hacc3 : acc.length ≤ a := hacc2 rfl
      clear hacc2
      obtain ⟨hf, hI⟩ : s.data.toList.length < f + a ∧ orowsGo s.data.toList f a (acc.map VRow.row) = R := by
        rcases HI.out with ⟨_, h2, h3⟩ | ⟨h1, _⟩
        · exact ⟨h2, h3⟩
        · cases h1
      rw [HL.out] at hf
      obtain ⟨f, rfl⟩ : ∃ f', f = f' + 1 := ⟨f - 1, by omega⟩
      clear HI
      unfold orowsGo at hI
      have kS := fun W h => stopped_any g s a false W h
      obtain ⟨q, last, p, np, hM⟩ : ∃ q last p np, olineS s.data.toList a = ((q, last), p, np) := ⟨_, _, _, _, rfl⟩
      have hle := olineS_le (l := s.data.toList) (a := a) (by rw [HL.out]; omega)
      have hlt2 := oline_lt (l := s.data.toList) (a := a) (by rw [HL.out]; omega)
      rw [hM] at hI hle hlt2
      rw [HL.out] at hle
      simp only at hI hle hlt2
      have kL := fun W rv hl ho hb => oline_any r g rv s a q last p np w.heap.size acc.length (acc.flatMap rowCell) W hl ho hb (by omega) ha hs hM
      clear hM
      cases last
      case true =>
        rw [if_pos rfl] at hI
        have hR : R.2 = (p, np) := by rw [← hI]
        have hR1' : R.1 = acc.map VRow.row ++ q.toList := by rw [← hI]
        clear hI hlt2
        cases np
        case true =>
          have kS2 := fun W h => stopped_any g s p true W h
          have kE := fun W h => end_any g s p true W h
          have kSt := fun W h => stop_any g s p true W h
          have hend : oendS s.data.toList R.2.1 R.2.2 = (p, true) := by rw [hR]; exact oend_no _ _
          cases he : (p == s.size)
          all_goals
            rw [he] at kE
            go_wp2_with (first
              | (go_at_call 20; (with_reducible refine (kS _ hX.sc).mono ?_); rintro e w2 ⟨rfl, rfl⟩)
              | (go_at_call 30; (with_reducible refine (kL _ _ hX.lr hX.own hX.bl.size).mono ?_); rintro e w3 ⟨rfl, h3⟩; obtain ⟨rv3, acc3, L9, hm3, hc3⟩ := hX.oline h3; have x9 := L9.rd.facts.1)
              | (go_at_call 20; (with_reducible refine (kS2 _ L9.sc).mono ?_); rintro e w10 ⟨rfl, rfl⟩)
              | (go_at_call 31; (with_reducible refine (kE _ L9.sc).mono ?_); rintro e w11 ⟨rfl, h11, hA11⟩; have L11 := L9.scan hA11 h11 (by simp); have x11 := L11.rd.facts.1)
              | (go_at_call 33; (with_reducible refine (kSt _ L11.sc).mono ?_); rintro e w15 ⟨rfl, h15, hA15⟩; have L15 := L11.scan hA15 h15 (by simp)))
            go_ret
            subst hg
            first
            | exact ⟨_, _, _, _, _, rfl, L15, hend, by simp⟩
            | exact ⟨_, _, _, _, _, rfl, L11, hend, by simp⟩
        case false =>
          have kS2 := fun W h => stopped_any g s p false W h
          have kE := fun W h => end_any g s p false W h
          cases he : (p == s.size)
          case true =>
            rw [he] at kE
            have hend : oendS s.data.toList R.2.1 R.2.2 = (p, false) := by rw [hR]; exact oend_at _ _ (by rw [HL.out]; exact he)
            go_wp2_with (first
              | (go_at_call 20; (with_reducible refine (kS _ hX.sc).mono ?_); rintro e w2 ⟨rfl, rfl⟩)
              | (go_at_call 30; (with_reducible refine (kL _ _ hX.lr hX.own hX.bl.size).mono ?_); rintro e w3 ⟨rfl, h3⟩; obtain ⟨rv3, acc3, L9, hm3, hc3⟩ := hX.oline h3; have x9 := L9.rd.facts.1)
              | (go_at_call 20; (with_reducible refine (kS2 _ L9.sc).mono ?_); rintro e w10 ⟨rfl, rfl⟩)
              | (go_at_call 31; (with_reducible refine (kE _ L9.sc).mono ?_); rintro e w11 ⟨rfl, h11, hA11⟩; have L11 := L9.scan hA11 h11 (by simp); have x11 := L11.rd.facts.1)
              | (go_at_call 31; (with_reducible refine (kE _ L11.sc).mono ?_); rintro e w12 ⟨rfl, h12, hA12⟩; have L12 := L11.scan hA12 h12 (by simp); have x12 := L12.rd.facts.1))
            go_ret
            subst hg
            exact ⟨_, _, _, _, _, rfl, L12, hend, fun _ => hR1'.trans hm3.symm⟩
          case false =>
            rw [he] at kE
            obtain ⟨p2, n2, hW⟩ : ∃ p2 n2, wordS s.data.toList [10] p false = (p2, n2) := ⟨_, _, rfl⟩
            have kW := fun W h => word_any g s ⟨#[10]⟩ p false p2 n2 W h (by omega) hs2 (by decide) hW
            have kE2 := fun W h => end_any g s p2 n2 W h
            have kSt := fun W h => stop_any g s p2 n2 W h
            have hend : oendS s.data.toList R.2.1 R.2.2 = (p2, if p2 == s.size then n2 else true) := by
              rw [hR, ← HL.out]; exact oend_word _ _ (by rw [HL.out]; exact he) hW
            clear hW
            cases he2 : (p2 == s.size)
            all_goals
              rw [he2] at kE2 hend
              go_wp2_with (first
                | (go_at_call 20; (with_reducible refine (kS _ hX.sc).mono ?_); rintro e w2 ⟨rfl, rfl⟩)
                | (go_at_call 30; (with_reducible refine (kL _ _ hX.lr hX.own hX.bl.size).mono ?_); rintro e w3 ⟨rfl, h3⟩; obtain ⟨rv3, acc3, L9, hm3, hc3⟩ := hX.oline h3; have x9 := L9.rd.facts.1)
                | (go_at_call 20; (with_reducible refine (kS2 _ L9.sc).mono ?_); rintro e w10 ⟨rfl, rfl⟩)
                | (go_at_call 31; (with_reducible refine (kE _ L9.sc).mono ?_); rintro e w11 ⟨rfl, h11, hA11⟩; have L11 := L9.scan hA11 h11 (by simp); have x11 := L11.rd.facts.1)
                | (go_at_call 32; (with_reducible refine (kW _ L11.sc).mono ?_); rintro e w13 ⟨rfl, h13, hA13⟩; have L13 := L11.scan hA13 h13 (by simp); have x13 := L13.rd.facts.1)
                | (go_at_call 31; (with_reducible refine (kE2 _ L13.sc).mono ?_); rintro e w14 ⟨rfl, h14, hA14⟩; have L14 := L13.scan hA14 h14 (by simp); have x14 := L14.rd.facts.1)
                | (go_at_call 33; (with_reducible refine (kSt _ L14.sc).mono ?_); rintro e w15 ⟨rfl, h15, hA15⟩; have L15 := L14.scan hA15 h15 (by simp)))
              go_ret
              subst hg
              first
              | exact ⟨_, _, _, _, _, rfl, L15, hend, by simp⟩
              | exact ⟨_, _, _, _, _, rfl, L14, hend, fun _ => hR1'.trans hm3.symm⟩
      case false =>
        rw [if_neg (by decide)] at hI
        have HI2 : ∀ acc' : List VRow, acc'.map VRow.row = acc.map VRow.row ++ q.toList → Hid (OReadR s.data.toList f p np (acc'.map VRow.row) R) := fun acc' hx => Lib.hid (by
          cases np
          · left
            refine ⟨rfl, by have := hlt2 rfl rfl; rw [HL.out]; omega, ?_⟩
            rw [if_neg (by decide)] at hI
            rw [hx]; exact hI
          · right
            refine ⟨rfl, ?_⟩
            rw [if_pos rfl] at hI
            rw [← hI])
        have hlt3 : np = false → a < p := fun h => hlt2 rfl h
        clear hI hlt2
        go_wp2_with (first
          | (go_at_call 20; (with_reducible refine (kS _ hX.sc).mono ?_); rintro e w2 ⟨rfl, rfl⟩)
          | (go_at_call 30; (with_reducible refine (kL _ _ hX.lr hX.own hX.bl.size).mono ?_); rintro e w3 ⟨rfl, h3⟩; obtain ⟨rv3, acc3, L9, hm3, hc3⟩ := hX.oline h3; have x9 := L9.rd.facts.1))
        refine ⟨⟨p, f, np, acc3, rv3, hle.2, by omega, fun h => by have := hlt3 h; omega, L9, HI2 _ hm3⟩, ?_⟩
        rw [L9.sc.mOf, hm0]
        cases np
        · have := hlt3 rfl; simp; omega
        · simp; omega
set_option maxHeartbeats 1600000 in
theorem bad_any' (s : ByteArray) (w : World) (hs : s.size ≤ 1048576) :
    Calls Tryd.prog 11 #[.string s] w fun e w' => e = .returned (.int .i64 (openBad s.data.toList)) ∧ Below w.heap.size w w' := by
  have kR := oread_any s w hs
  unfold openBad
  generalize openRows s.data.toList = R at kR ⊢
  obtain ⟨R1, Ra, Rn⟩ := R
  go_enter Tryd.func11, Tryd.ntmps11
  go_upto_region 2 with (go_at_call 19; refine kR.mono ?_; rintro e w1 ⟨r, g, rv, no, acc, rfl, h1, hR, hR2⟩; obtain rfl : Rn = no := hR; obtain ⟨x0, x1, x2⟩ := h1.rd.facts; have kS := stopped_any g s Ra Rn w1 h1.sc; have kA := at_any g s Ra Rn w1 h1.sc)
  clear kR
  cases Rn
  all_goals
    go_wp2_with (first
      | (go_at_call 20; refine kS.mono ?_; rintro e w2 ⟨rfl, rfl⟩)
      | (go_at_call 25; refine kA.mono ?_; rintro e w3 ⟨rfl, rfl⟩))
    go_ret
    exact ⟨rfl, h1.bl⟩
set_option maxHeartbeats 1600000 in
theorem rows_any (s : ByteArray) (w : World) (hs : s.size ≤ 1048576) :
    Calls Tryd.prog 9 #[.string s] w fun e w' => RowsE (openRows s.data.toList) e w' ∧ Below w.heap.size w w' := by
  have kR := oread_any s w hs
  generalize openRows s.data.toList = R at kR ⊢
  obtain ⟨R1, Ra, Rn⟩ := R
  go_enter Tryd.func9, Tryd.ntmps9
  go_upto_region 2 with (go_at_call 19; refine kR.mono ?_; rintro e w1 ⟨r, g, rv, no, acc, rfl, h1, hR, hR2⟩; obtain rfl : Rn = no := hR; obtain ⟨x0, x1, x2⟩ := h1.rd.facts; have kS := stopped_any g s Ra Rn w1 h1.sc; obtain ⟨A, c, rfl, hrows⟩ := h1.has)
  clear kR
  cases Rn
  · have hR1 : R1 = acc.map VRow.row := hR2 rfl
    rw [← hR1] at hrows
    clear hR2 hR1
    go_wp2_with (go_at_call 20; refine kS.mono ?_; rintro e w2 ⟨rfl, rfl⟩)
    go_ret2
    exact ⟨rowsE_yes hrows, h1.bl⟩
  · go_wp2_with (go_at_call 20; refine kS.mono ?_; rintro e w2 ⟨rfl, rfl⟩)
    go_ret2
    exact ⟨rowsE_no, h1.bl⟩
end Go.Proofs.YtdngieihlcknmaaDoor
