/- The walks of package openword: a name, a label. -/
import Derived.Test.YtdngieihlcknmaaDoorOpenDef
import Derived.Test.YtdngieihlcknmaaDoorCls
import Derived.Test.YtdngieihlcknmaaDoorRdA
import Derived.Test.YtdngieihlcknmaaDoorAppAny
import Derived.BigRegion
namespace Go.Proofs.YtdngieihlcknmaaDoor
set_option linter.unusedVariables false
set_option linter.unusedSimpArgs false
open Go.RowKit
theorem nm_inner {l : List UInt8} {a : Nat} {no : Bool} : (no || (pkB l a no && digB (bt l a))) = (no || (pkB l a no && digB (pkC l a no))) := by
  unfold pkC
  cases h : pkB l a no <;> simp
set_option maxRecDepth 100000 in
set_option maxHeartbeats 1600000 in
theorem name_olabel (r g : Nat) (rv : Value) (s : ByteArray) (a : Nat) (no : Bool) (a' : Nat) (no' : Bool) (w : World) (h : LR w w r g rv s a no) (ha : a ≤ s.size) (hs : s.size ≤ 1048576) (hR : nmS s.data.toList owLabel a no = (a', no')) :
    Calls Tryd.prog 59 #[.pointer (some ⟨r, 0, none⟩), .func (.func 91) #[] #[]] w fun e w' => e = .returned (.string (mkS (cutL s.data.toList a a'))) ∧ LR w w' r g rv s a' no' := by
  have hs2 : s.size ≤ 4611686018427387904 := Nat.le_trans hs (by decide)
  unfold nmS at hR
  rw [nm_inner] at hR
  rw [← ext_cut]
  have kP := fun W h => peek_any g s a no W h ha hs2
  generalize pkC s.data.toList a no = c at kP hR
  generalize hb : pkB s.data.toList a no = b at kP hR
  have kD := fun W => sdigit_any c W
  generalize hd : digB c = d at kD hR
  have kSt := fun W h => stop_any g s a no W h
  have x0 := h.facts
  cases b
  · simp only [Bool.false_and, Bool.or_false] at hR
    have kS := fun W h => some_olabel g s a no a' no' W h ha hs2 hR
    clear hR
    go_enter Tryd.func59, Tryd.ntmps59
    go_wp2_with (first
      | (go_at_call 58; refine (kP _ h.sc).mono ?_; rintro e w1 ⟨rfl, h1, hA1⟩; have L1 := h.scan hA1 h1 (by simp); have x1 := L1.facts)
      | (go_at_call 63; refine (kS _ L1.sc).mono ?_; rintro e w2 ⟨rfl, h2, hA2⟩; have L2 := L1.scan hA2 h2 (by simp)))
    go_ret
    exact ⟨rfl, L2⟩
  · cases d
    · simp only [Bool.and_false, Bool.or_false] at hR
      have kS := fun W h => some_olabel g s a no a' no' W h ha hs2 hR
      clear hR
      go_enter Tryd.func59, Tryd.ntmps59
      go_wp2_with (first
        | (go_at_call 58; refine (kP _ h.sc).mono ?_; rintro e w1 ⟨rfl, h1, hA1⟩; have L1 := h.scan hA1 h1 (by simp); have x1 := L1.facts)
        | (go_at_call 75; refine (kD _).mono ?_; rintro e w3 ⟨rfl, rfl⟩)
        | (go_at_call 63; refine (kS _ L1.sc).mono ?_; rintro e w2 ⟨rfl, h2, hA2⟩; have L2 := L1.scan hA2 h2 (by simp)))
      go_ret
      exact ⟨rfl, L2⟩
    · simp only [Bool.and_true, Bool.or_true] at hR
      have kS := fun W h => some_olabel g s a true a' no' W h ha hs2 hR
      clear hR
      go_enter Tryd.func59, Tryd.ntmps59
      go_wp2_with (first
        | (go_at_call 58; refine (kP _ h.sc).mono ?_; rintro e w1 ⟨rfl, h1, hA1⟩; have L1 := h.scan hA1 h1 (by simp); have x1 := L1.facts)
        | (go_at_call 75; refine (kD _).mono ?_; rintro e w3 ⟨rfl, rfl⟩)
        | (go_at_call 33; refine (kSt _ L1.sc).mono ?_; rintro e w4 ⟨rfl, h4, hA4⟩; have L4 := L1.scan hA4 h4 (by simp); have x4 := L4.facts)
        | (go_at_call 63; refine (kS _ L4.sc).mono ?_; rintro e w2 ⟨rfl, h2, hA2⟩; have L2 := L4.scan hA2 h2 (by simp)))
      go_ret
      exact ⟨rfl, L2⟩
set_option maxRecDepth 100000 in
set_option maxHeartbeats 1600000 in
theorem name_oname (r g : Nat) (rv : Value) (s : ByteArray) (a : Nat) (no : Bool) (a' : Nat) (no' : Bool) (w : World) (h : LR w w r g rv s a no) (ha : a ≤ s.size) (hs : s.size ≤ 1048576) (hR : nmS s.data.toList owName a no = (a', no')) :
    Calls Tryd.prog 59 #[.pointer (some ⟨r, 0, none⟩), .func (.func 60) #[] #[]] w fun e w' => e = .returned (.string (mkS (cutL s.data.toList a a'))) ∧ LR w w' r g rv s a' no' := by
  have hs2 : s.size ≤ 4611686018427387904 := Nat.le_trans hs (by decide)
  unfold nmS at hR
  rw [nm_inner] at hR
  rw [← ext_cut]
  have kP := fun W h => peek_any g s a no W h ha hs2
  generalize pkC s.data.toList a no = c at kP hR
  generalize hb : pkB s.data.toList a no = b at kP hR
  have kD := fun W => sdigit_any c W
  generalize hd : digB c = d at kD hR
  have kSt := fun W h => stop_any g s a no W h
  have x0 := h.facts
  cases b
  · simp only [Bool.false_and, Bool.or_false] at hR
    have kS := fun W h => some_oname g s a no a' no' W h ha hs2 hR
    clear hR
    go_enter Tryd.func59, Tryd.ntmps59
    go_wp2_with (first
      | (go_at_call 58; refine (kP _ h.sc).mono ?_; rintro e w1 ⟨rfl, h1, hA1⟩; have L1 := h.scan hA1 h1 (by simp); have x1 := L1.facts)
      | (go_at_call 63; refine (kS _ L1.sc).mono ?_; rintro e w2 ⟨rfl, h2, hA2⟩; have L2 := L1.scan hA2 h2 (by simp)))
    go_ret
    exact ⟨rfl, L2⟩
  · cases d
    · simp only [Bool.and_false, Bool.or_false] at hR
      have kS := fun W h => some_oname g s a no a' no' W h ha hs2 hR
      clear hR
      go_enter Tryd.func59, Tryd.ntmps59
      go_wp2_with (first
        | (go_at_call 58; refine (kP _ h.sc).mono ?_; rintro e w1 ⟨rfl, h1, hA1⟩; have L1 := h.scan hA1 h1 (by simp); have x1 := L1.facts)
        | (go_at_call 75; refine (kD _).mono ?_; rintro e w3 ⟨rfl, rfl⟩)
        | (go_at_call 63; refine (kS _ L1.sc).mono ?_; rintro e w2 ⟨rfl, h2, hA2⟩; have L2 := L1.scan hA2 h2 (by simp)))
      go_ret
      exact ⟨rfl, L2⟩
    · simp only [Bool.and_true, Bool.or_true] at hR
      have kS := fun W h => some_oname g s a true a' no' W h ha hs2 hR
      clear hR
      go_enter Tryd.func59, Tryd.ntmps59
      go_wp2_with (first
        | (go_at_call 58; refine (kP _ h.sc).mono ?_; rintro e w1 ⟨rfl, h1, hA1⟩; have L1 := h.scan hA1 h1 (by simp); have x1 := L1.facts)
        | (go_at_call 75; refine (kD _).mono ?_; rintro e w3 ⟨rfl, rfl⟩)
        | (go_at_call 33; refine (kSt _ L1.sc).mono ?_; rintro e w4 ⟨rfl, h4, hA4⟩; have L4 := L1.scan hA4 h4 (by simp); have x4 := L4.facts)
        | (go_at_call 63; refine (kS _ L4.sc).mono ?_; rintro e w2 ⟨rfl, h2, hA2⟩; have L2 := L4.scan hA2 h2 (by simp)))
      go_ret
      exact ⟨rfl, L2⟩
set_option maxRecDepth 100000 in
set_option maxHeartbeats 1600000 in
theorem otag_any (r g : Nat) (rv : Value) (s : ByteArray) (a : Nat) (no : Bool) (T : MTag) (a' : Nat) (no' : Bool) (w : World) (h : LR w w r g rv s a no) (ha : a ≤ s.size) (hs : s.size ≤ 1048576) (hR : otagS s.data.toList a no = (T, a', no')) :
    Calls Tryd.prog 77 #[.pointer (some ⟨r, 0, none⟩)] w fun e w' => e = .returned (.agg #[.string T.name, .string T.value, .int .i64 (T.off : Int), .int .i64 (T.pos : Int)]) ∧ LR w w' r g rv s a' no' := by
  have hL : s.data.toList.length = s.size := by simp
  have hs2 : s.size ≤ 4611686018427387904 := Nat.le_trans hs (by decide)
  obtain ⟨a1, n1, h1⟩ : ∃ a1 n1, nmS s.data.toList owLabel a no = (a1, n1) := ⟨_, _, rfl⟩
  obtain ⟨a2, n2, h2⟩ : ∃ a2 n2, wordS s.data.toList wEq a1 n1 = (a2, n2) := ⟨_, _, rfl⟩
  obtain ⟨V, a3, n3, h3⟩ : ∃ V a3 n3, ink s.data.toList 34 inV 110 a2 n2 = (V, a3, n3) := ⟨_, _, _, rfl⟩
  obtain ⟨a4, n4, h4⟩ : ∃ a4 n4, wordS s.data.toList [34] a3 n3 = (a4, n4) := ⟨_, _, rfl⟩
  have hl1 := nmS_le (l := s.data.toList) owLabel no (by rw [hL]; exact ha)
  rw [h1, hL] at hl1
  have hl2 := wordS_le s.data.toList wEq a1 n1 (by rw [hL]; exact hl1.2)
  rw [h2, hL] at hl2
  have hl3 := ink_le s.data.toList 34 inV 110 a2 n2 (by rw [hL]; exact hl2.2)
  rw [h3, hL] at hl3
  simp only at hl1 hl2 hl3
  unfold otagS at hR
  have hV : mkS (inkV s.data.toList 34 inV 110 a2 n2) = if n3 then ⟨#[]⟩ else mkS V := by
    unfold inkV; rw [h3]; cases n3 <;> rfl
  simp only [h1, h2, h3, h4] at hR
  obtain ⟨rfl, rfl, rfl⟩ : (⟨mkS (cutL s.data.toList a a1), mkS (inkV s.data.toList 34 inV 110 a2 n2), a, a2⟩ : MTag) = T ∧ a4 = a' ∧ n4 = no' := by
    injection hR with e1 e2; injection e2 with e3 e4; exact ⟨e1, e3, e4⟩
  have kA := fun W a no h => at_any g s a no W h
  have kN := fun W h => name_olabel r g rv s a no a1 n1 W h ha hs h1
  have kW := fun W h => word_any g s ⟨#[61, 34]⟩ a1 n1 a2 n2 W h hl1.2 hs2 (by decide) h2
  have kI := fun W h => inked_any g s ⟨#[92, 34, 110]⟩ 34 a2 n2 V a3 n3 W h hl2.2 hs h3
  have kW2 := fun W h => word_any g s ⟨#[34]⟩ a3 n3 a4 n4 W h hl3.2.1 hs2 (by decide) h4
  simp only
  rw [hV]
  clear hR h1 h2 h3 h4 hV
  generalize (if n3 = true then (⟨#[]⟩ : ByteArray) else mkS V) = V2 at kI ⊢
  generalize mkS (cutL s.data.toList a a1) = V1 at kN ⊢
  have hr := Blk.lt h.rd
  have hg := Blk.lt h.sc
  have U1 : LU w ((w.alloc (.cells #[.string ⟨#[]⟩, .string ⟨#[]⟩, .int .i64 0, .int .i64 0] 44)).alloc (.cells #[.string ⟨#[]⟩, .string ⟨#[]⟩, .int .i64 (a : Int), .int .i64 0] 44)) r g rv s a no (w.heap.size + 1) ⟨#[]⟩ ⟨#[]⟩ a 0 w.heap.size :=
    ⟨(h.alloc _).alloc _, by
      have := Blk.new (w.alloc (.cells #[.string ⟨#[]⟩, .string ⟨#[]⟩, .int .i64 0, .int .i64 0] 44)) 44 #[.string ⟨#[]⟩, .string ⟨#[]⟩, .int .i64 (a : Int), .int .i64 0]
      simpa [Tg] using this, Blk.alloc (Blk.new w _ _) _, ⟨by omega, by omega, by omega, by omega⟩, by omega, by omega, Nat.le_refl _⟩
  have x0 := (h.alloc (.cells #[.string ⟨#[]⟩, .string ⟨#[]⟩, .int .i64 0, .int .i64 0] 44)).facts
  have x1 := U1.lr.facts
  obtain ⟨_, f10, _⟩ := U1.tg.facts
  go_enter Tryd.func77, Tryd.ntmps77
  go_wp2_with (first
    | (go_at_call 25; (with_reducible refine (kA _ a no (h.alloc _).sc).mono ?_); rintro e w1 ⟨rfl, rfl⟩)
    | (go_at_call 59; (with_reducible refine (kN _ U1.lr.self).mono ?_); rintro e w2 ⟨rfl, h2⟩; have U2 := U1.scan h2.aw h2.sc (by simp); have x2 := U2.lr.facts; obtain ⟨_, f20, _⟩ := U2.tg.facts; have U3 := U2.name V1; have x3 := U3.lr.facts)
    | (go_at_call 32; (with_reducible refine (kW _ U3.lr.sc).mono ?_); rintro e w4 ⟨rfl, h4, hA4⟩; have U4 := U3.scan hA4 h4 (by simp); have x4 := U4.lr.facts; obtain ⟨_, _, _, _, f43⟩ := U4.tg.facts; have U5 := U4.pos_ a2; have x5 := U5.lr.facts)
    | (go_at_call 25; (with_reducible refine (kA _ a2 n2 U4.lr.sc).mono ?_); rintro e w5 ⟨rfl, rfl⟩)
    | (go_at_call 65; (with_reducible refine (kI _ U5.lr.sc).mono ?_); rintro e w6 ⟨rfl, h6, hA6⟩; have U6 := U5.scan hA6 h6 (by simp); have x6 := U6.lr.facts; obtain ⟨_, _, f61, _⟩ := U6.tg.facts; have U7 := U6.val V2; have x7 := U7.lr.facts)
    | (go_at_call 32; (with_reducible refine (kW2 _ U7.lr.sc).mono ?_); rintro e w8 ⟨rfl, h8, hA8⟩; have U8 := U7.scan hA8 h8 (by simp); obtain ⟨⟨c0, c1, c2, c3⟩, _⟩ := U8.tg.facts; obtain ⟨⟨e0, e1, e2, e3⟩, v0, v1, v2, v3⟩ := U8.tu.facts))
  have L9 := U8.out
  exact bodyPost_ret (v := .agg #[.string V1, .string V2, .int .i64 (a : Int), .int .i64 (a2 : Int)]) (by simp [results, Tryd.results77, go_sem, e0, e1, e2, e3]) rfl ⟨rfl, L9⟩
end Go.Proofs.YtdngieihlcknmaaDoor
