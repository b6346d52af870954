/- The walks of package scan: scalars up to a byte, signs. -/
import Derived.Test.YtdngieihlcknmaaDoorScanC
namespace Go.Proofs.YtdngieihlcknmaaDoor
set_option linter.unusedVariables false
set_option linter.unusedSimpArgs false
open Go.RowKit
theorem idx_any (m : List UInt8) (c : Int) (h0 : 0 ≤ c) (h1 : c ≤ 255) : (m.any fun d => c == d.toNat) = decide (0 ≤ Lib.indexByte m c.toNat.toUInt8) := by
  apply bcl
  rw [decide_eq_true_eq]
  have := idxB_mem m c h0 h1
  unfold idxB at this
  rw [this, List.any_eq_true]
  simp only [beq_iff_eq]
theorem conv_byte (W : World) (x : UInt8) : (convert 82 9 (.slice (some ⟨W.heap.size, 0, none⟩) 1 1)).run Tryd.prog (W.alloc (.cells #[.int .u8 (x.toNat : Int)] 5)) = .ok (.string ⟨#[x]⟩) (W.alloc (.cells #[.int .u8 (x.toNat : Int)] 5)) := by
  have h1 : Tryd.prog.underlying 82 = some (.slice 5) := by kernel_rfl
  have h2 : Tryd.prog.underlying 5 = some (.int .u8) := by kernel_rfl
  have h3 : Tryd.prog.underlying 9 = some .string := by kernel_rfl
  exact run_convert_bytes_back (P := Tryd.prog) (W.alloc (.cells #[.int .u8 (x.toNat : Int)] 5)) _ _ _ ⟨W.heap.size, 0, none⟩ 1 [x] h1 h2 h3 fun j hj => by
    have hj0 : j = 0 := by simpa using hj
    subst hj0
    have h4 : (⟨W.heap.size, 0, none⟩ : Addr).add 0 = ⟨W.heap.size, 0, none⟩ := by unfold Addr.add; split <;> simp_all
    rw [h4, (Blk.new W _ _).cell 0]
    rfl
theorem conv_byte2 (W : World) (p : Addr) (u : Value) (x : UInt8) : (convert 82 9 (.slice (some ⟨W.heap.size, 0, none⟩) 1 1)).run Tryd.prog ((W.setCell p u).alloc (.cells #[.int .u8 (x.toNat : Int)] 5)) = .ok (.string ⟨#[x]⟩) ((W.setCell p u).alloc (.cells #[.int .u8 (x.toNat : Int)] 5)) := by
  have h := conv_byte (W.setCell p u) x
  have e : (W.setCell p u).heap.size = W.heap.size := by simp [World.setCell]
  rw [e] at h
  exact h
theorem bt_u8 (l : List UInt8) (a : Nat) : bt l a = ((l.getD a 0).toNat : Int) := rfl
set_option maxRecDepth 100000 in
set_option maxHeartbeats 1600000 in
theorem behind_any (g : Nat) (s m : ByteArray) (a : Nat) (w : World) (h : Sc w g s a false) (ha : a < s.size) (hs : s.size ≤ 4611686018427387904) :
    Calls Tryd.prog 80 #[.pointer (some ⟨g, 0, none⟩), .string m] w fun e w' => e = .returned (.string (if escB s.data.toList m.data.toList a then ⟨#[if bt s.data.toList (a + 1) = 110 then 10 else s.data.toList.getD (a + 1) 0]⟩ else ⟨#[]⟩)) ∧ Sc w' g s (if escB s.data.toList m.data.toList a then a + 2 else a + 1) (!escB s.data.toList m.data.toList a) ∧ Aw [g] w w' := by
  have hL : s.data.toList.length = s.size := by simp
  have h1 := h.at1
  have hA0 : Aw [g] w (w.setCell ⟨g, 1, none⟩ (.int .i64 ((a : Int) + 1))) := (Aw.refl _ _).setCell (.inl (by simp)) _
  obtain ⟨⟨c0, c1, c2⟩, f1, f2⟩ := h.facts
  have kP := fun W h => peek_any g s (a + 1) false W h (by omega) hs
  have hb0 := bt_nonneg s.data.toList (a + 1)
  have hb1 := bt_le s.data.toList (a + 1)
  have hx := idx_any m.data.toList (bt s.data.toList (a + 1)) hb0 hb1
  have kI := fun W => Tryd.strings_IndexByte m (bt s.data.toList (a + 1)) W
  by_cases hlt : a + 1 < s.size
  · have hp : pkB s.data.toList (a + 1) false = true := by simp [pkB, hlt]
    have hc : pkC s.data.toList (a + 1) false = bt s.data.toList (a + 1) := by unfold pkC; rw [hp]; rfl
    rw [hp, hc] at kP
    have he : escB s.data.toList m.data.toList a = decide (0 ≤ Lib.indexByte m.data.toList (bt s.data.toList (a + 1)).toNat.toUInt8) := by
      unfold escB; rw [← hx, decide_eq_true (by rw [hL]; exact hlt)]; rfl
    rw [he]
    clear he hx hp hc hL
    generalize Lib.indexByte m.data.toList (bt s.data.toList (a + 1)).toNat.toUInt8 = ix at kI ⊢
    have hcv := fun W p u => conv_byte2 W p u (s.data.toList.getD (a + 1) 0)
    rw [← bt_u8] at hcv
    generalize bt s.data.toList (a + 1) = c at kI kP hcv hb0 hb1 ⊢
    generalize s.data.toList.getD (a + 1) 0 = x at hcv ⊢
    by_cases hi : 0 ≤ ix
    · have hd : decide (0 ≤ ix) = true := decide_eq_true hi
      have hd2 : decide (ix < 0) = false := decide_eq_false (by omega)
      rw [hd]
      simp only [if_true, Bool.not_true]
      by_cases hn : c = 110
      · rw [if_pos hn]
        clear hd hi hcv
        subst hn
        go_enter Tryd.func80, Tryd.ntmps80
        go_wp2_with (first
          | (go_at_call 58; refine (kP _ h1).mono ?_; rintro e w1 ⟨rfl, h2, hA1⟩; obtain ⟨⟨d0, d1, d2⟩, g1, g2⟩ := h2.facts)
          | (go_at_call 90; refine (kI _).mono ?_; rintro e w2 ⟨rfl, rfl⟩))
        go_ret
        exact ⟨rfl, h2.at1, (hA0.trans (hA1.mono (by simp))).setCell (.inl (by simp)) _⟩
      · have hn2 : (c == 110) = false := by rw [beq_eq_false_iff_ne]; exact hn
        rw [if_neg hn]
        clear hn hd hi
        go_enter Tryd.func80, Tryd.ntmps80
        go_wp2_with (first
          | (go_at_call 58; refine (kP _ h1).mono ?_; rintro e w1 ⟨rfl, h2, hA1⟩; obtain ⟨⟨d0, d1, d2⟩, g1, g2⟩ := h2.facts)
          | (go_at_call 90; refine (kI _).mono ?_; rintro e w2 ⟨rfl, rfl⟩))
        go_ret
        exact ⟨rfl, h2.at1.alloc _, ((hA0.trans (hA1.mono (by simp))).setCell (.inl (by simp)) _).alloc _⟩
    · have hd : decide (0 ≤ ix) = false := decide_eq_false hi
      have hd2 : decide (ix < 0) = true := decide_eq_true (by omega)
      rw [hd]
      simp only [Bool.false_eq_true, if_false, Bool.not_false]
      clear hd hi hcv
      go_enter Tryd.func80, Tryd.ntmps80
      go_wp2_with (first
        | (go_at_call 58; refine (kP _ h1).mono ?_; rintro e w1 ⟨rfl, h2, hA1⟩; obtain ⟨⟨d0, d1, d2⟩, g1, g2⟩ := h2.facts)
        | (go_at_call 90; refine (kI _).mono ?_; rintro e w2 ⟨rfl, rfl⟩))
      go_ret
      exact ⟨rfl, h2.no1 true, (hA0.trans (hA1.mono (by simp))).setCell (.inl (by simp)) _⟩
  · have hp : pkB s.data.toList (a + 1) false = false := by simp [pkB]; omega
    have he : escB s.data.toList m.data.toList a = false := by simp [escB]; intro h; omega
    rw [hp] at kP
    rw [he]
    simp only [Bool.false_eq_true, if_false, Bool.not_false]
    clear he hx hp hL kI hb0 hb1
    go_enter Tryd.func80, Tryd.ntmps80
    go_wp2_with (go_at_call 58; refine (kP _ h1).mono ?_; rintro e w1 ⟨rfl, h2, hA1⟩; obtain ⟨⟨d0, d1, d2⟩, g1, g2⟩ := h2.facts)
    go_ret
    exact ⟨rfl, h2.no1 true, (hA0.trans (hA1.mono (by simp))).setCell (.inl (by simp)) _⟩
end Go.Proofs.YtdngieihlcknmaaDoor
