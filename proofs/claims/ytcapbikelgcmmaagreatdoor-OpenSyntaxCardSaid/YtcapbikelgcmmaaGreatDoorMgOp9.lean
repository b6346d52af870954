/- The walks of package openword: a name, a label. The walk of package openword: labels in brackets. The walks of package openword: a sample, what is told of a family. The walks of package openword: what is told of a family. The walks of package openword: a line, a text. The walks of package openword: a text: Bad, Rows. openword.Rows with the room of its rows' labels. -/
import Derived.Test.YtcapbikelgcmmaaGreatDoorMgPl9
import Derived.Test.YtcapbikelgcmmaaGreatDoorMgSc9
import Derived.BigRegion
import Derived.Deep.RegionLaw
namespace Go.Proofs.YtcapbikelgcmmaaGreatDoor
set_option linter.unusedVariables false
set_option linter.unusedSimpArgs false
open Go.RowKit
section
theorem nm_inner {l : List UInt8} {a : Nat} {no : Bool} : (no || (pkB l a no && digB (bt l a))) = (no || (pkB l a no && digB (pkC l a no))) := by
  unfold pkC
  cases h : pkB l a no <;> simp
set_option maxRecDepth 100000 in
set_option maxHeartbeats 1600000 in
theorem name_olabel (r g : Nat) (rv : Value) (s : ByteArray) (a : Nat) (no : Bool) (a' : Nat) (no' : Bool) (w : World) (h : LR w w r g rv s a no) (ha : a ≤ s.size) (hs : s.size ≤ 1048576) (hR : nmS s.data.toList owLabel a no = (a', no')) :
    Calls Tryz.prog 148 #[.pointer (some ⟨r, 0, none⟩), .func (.func 227) #[] #[]] w fun e w' => e = .returned (.string (mkS (cutL s.data.toList a a'))) ∧ LR w w' r g rv s a' no' := by
  have hs2 : s.size ≤ 4611686018427387904 := Nat.le_trans hs (by decide)
  unfold nmS at hR
  rw [nm_inner] at hR
  rw [← ext_cut]
  have kP := fun W h => peek_any g s a no W h ha hs2
  generalize pkC s.data.toList a no = c at kP hR
  generalize hb : pkB s.data.toList a no = b at kP hR
  have kD := fun W => sdigit_any c W
  generalize hd : digB c = d at kD hR
  have kSt := fun W h => stop_any g s a no W h
  have x0 := h.facts
  cases b
  · simp only [Bool.false_and, Bool.or_false] at hR
    have kS := fun W h => some_olabel g s a no a' no' W h ha hs2 hR
    clear hR
    go_enter Tryz.func148, Tryz.ntmps148
    go_wp2_with (first
      | (go_at_call 147; refine (kP _ h.sc).mono ?_; rintro e w1 ⟨rfl, h1, hA1⟩; have L1 := h.scan hA1 h1 (by simp); have x1 := L1.facts)
      | (go_at_call 152; refine (kS _ L1.sc).mono ?_; rintro e w2 ⟨rfl, h2, hA2⟩; have L2 := L1.scan hA2 h2 (by simp)))
    go_ret
    exact ⟨rfl, L2⟩
  · cases d
    · simp only [Bool.and_false, Bool.or_false] at hR
      have kS := fun W h => some_olabel g s a no a' no' W h ha hs2 hR
      clear hR
      go_enter Tryz.func148, Tryz.ntmps148
      go_wp2_with (first
        | (go_at_call 147; refine (kP _ h.sc).mono ?_; rintro e w1 ⟨rfl, h1, hA1⟩; have L1 := h.scan hA1 h1 (by simp); have x1 := L1.facts)
        | (go_at_call 192; refine (kD _).mono ?_; rintro e w3 ⟨rfl, rfl⟩)
        | (go_at_call 152; refine (kS _ L1.sc).mono ?_; rintro e w2 ⟨rfl, h2, hA2⟩; have L2 := L1.scan hA2 h2 (by simp)))
      go_ret
      exact ⟨rfl, L2⟩
    · simp only [Bool.and_true, Bool.or_true] at hR
      have kS := fun W h => some_olabel g s a true a' no' W h ha hs2 hR
      clear hR
      go_enter Tryz.func148, Tryz.ntmps148
      go_wp2_with (first
        | (go_at_call 147; refine (kP _ h.sc).mono ?_; rintro e w1 ⟨rfl, h1, hA1⟩; have L1 := h.scan hA1 h1 (by simp); have x1 := L1.facts)
        | (go_at_call 192; refine (kD _).mono ?_; rintro e w3 ⟨rfl, rfl⟩)
        | (go_at_call 58; refine (kSt _ L1.sc).mono ?_; rintro e w4 ⟨rfl, h4, hA4⟩; have L4 := L1.scan hA4 h4 (by simp); have x4 := L4.facts)
        | (go_at_call 152; refine (kS _ L4.sc).mono ?_; rintro e w2 ⟨rfl, h2, hA2⟩; have L2 := L4.scan hA2 h2 (by simp)))
      go_ret
      exact ⟨rfl, L2⟩
set_option maxRecDepth 100000 in
set_option maxHeartbeats 1600000 in
theorem name_oname (r g : Nat) (rv : Value) (s : ByteArray) (a : Nat) (no : Bool) (a' : Nat) (no' : Bool) (w : World) (h : LR w w r g rv s a no) (ha : a ≤ s.size) (hs : s.size ≤ 1048576) (hR : nmS s.data.toList owName a no = (a', no')) :
    Calls Tryz.prog 148 #[.pointer (some ⟨r, 0, none⟩), .func (.func 149) #[] #[]] w fun e w' => e = .returned (.string (mkS (cutL s.data.toList a a'))) ∧ LR w w' r g rv s a' no' := by
  have hs2 : s.size ≤ 4611686018427387904 := Nat.le_trans hs (by decide)
  unfold nmS at hR
  rw [nm_inner] at hR
  rw [← ext_cut]
  have kP := fun W h => peek_any g s a no W h ha hs2
  generalize pkC s.data.toList a no = c at kP hR
  generalize hb : pkB s.data.toList a no = b at kP hR
  have kD := fun W => sdigit_any c W
  generalize hd : digB c = d at kD hR
  have kSt := fun W h => stop_any g s a no W h
  have x0 := h.facts
  cases b
  · simp only [Bool.false_and, Bool.or_false] at hR
    have kS := fun W h => some_oname g s a no a' no' W h ha hs2 hR
    clear hR
    go_enter Tryz.func148, Tryz.ntmps148
    go_wp2_with (first
      | (go_at_call 147; refine (kP _ h.sc).mono ?_; rintro e w1 ⟨rfl, h1, hA1⟩; have L1 := h.scan hA1 h1 (by simp); have x1 := L1.facts)
      | (go_at_call 152; refine (kS _ L1.sc).mono ?_; rintro e w2 ⟨rfl, h2, hA2⟩; have L2 := L1.scan hA2 h2 (by simp)))
    go_ret
    exact ⟨rfl, L2⟩
  · cases d
    · simp only [Bool.and_false, Bool.or_false] at hR
      have kS := fun W h => some_oname g s a no a' no' W h ha hs2 hR
      clear hR
      go_enter Tryz.func148, Tryz.ntmps148
      go_wp2_with (first
        | (go_at_call 147; refine (kP _ h.sc).mono ?_; rintro e w1 ⟨rfl, h1, hA1⟩; have L1 := h.scan hA1 h1 (by simp); have x1 := L1.facts)
        | (go_at_call 192; refine (kD _).mono ?_; rintro e w3 ⟨rfl, rfl⟩)
        | (go_at_call 152; refine (kS _ L1.sc).mono ?_; rintro e w2 ⟨rfl, h2, hA2⟩; have L2 := L1.scan hA2 h2 (by simp)))
      go_ret
      exact ⟨rfl, L2⟩
    · simp only [Bool.and_true, Bool.or_true] at hR
      have kS := fun W h => some_oname g s a true a' no' W h ha hs2 hR
      clear hR
      go_enter Tryz.func148, Tryz.ntmps148
      go_wp2_with (first
        | (go_at_call 147; refine (kP _ h.sc).mono ?_; rintro e w1 ⟨rfl, h1, hA1⟩; have L1 := h.scan hA1 h1 (by simp); have x1 := L1.facts)
        | (go_at_call 192; refine (kD _).mono ?_; rintro e w3 ⟨rfl, rfl⟩)
        | (go_at_call 58; refine (kSt _ L1.sc).mono ?_; rintro e w4 ⟨rfl, h4, hA4⟩; have L4 := L1.scan hA4 h4 (by simp); have x4 := L4.facts)
        | (go_at_call 152; refine (kS _ L4.sc).mono ?_; rintro e w2 ⟨rfl, h2, hA2⟩; have L2 := L4.scan hA2 h2 (by simp)))
      go_ret
      exact ⟨rfl, L2⟩
set_option maxRecDepth 100000 in
set_option maxHeartbeats 1600000 in
theorem otag_any (r g : Nat) (rv : Value) (s : ByteArray) (a : Nat) (no : Bool) (T : MTag) (a' : Nat) (no' : Bool) (w : World) (h : LR w w r g rv s a no) (ha : a ≤ s.size) (hs : s.size ≤ 1048576) (hR : otagS s.data.toList a no = (T, a', no')) :
    Calls Tryz.prog 194 #[.pointer (some ⟨r, 0, none⟩)] w fun e w' => e = .returned (.agg #[.string T.name, .string T.value, .int .i64 (T.off : Int), .int .i64 (T.pos : Int)]) ∧ LR w w' r g rv s a' no' := by
  have hL : s.data.toList.length = s.size := by simp
  have hs2 : s.size ≤ 4611686018427387904 := Nat.le_trans hs (by decide)
  obtain ⟨a1, n1, h1⟩ : ∃ a1 n1, nmS s.data.toList owLabel a no = (a1, n1) := ⟨_, _, rfl⟩
  obtain ⟨a2, n2, h2⟩ : ∃ a2 n2, wordS s.data.toList wEq a1 n1 = (a2, n2) := ⟨_, _, rfl⟩
  obtain ⟨V, a3, n3, h3⟩ : ∃ V a3 n3, ink s.data.toList 34 inV 110 a2 n2 = (V, a3, n3) := ⟨_, _, _, rfl⟩
  obtain ⟨a4, n4, h4⟩ : ∃ a4 n4, wordS s.data.toList [34] a3 n3 = (a4, n4) := ⟨_, _, rfl⟩
  have hl1 := nmS_le (l := s.data.toList) owLabel no (by rw [hL]; exact ha)
  rw [h1, hL] at hl1
  have hl2 := wordS_le s.data.toList wEq a1 n1 (by rw [hL]; exact hl1.2)
  rw [h2, hL] at hl2
  have hl3 := ink_le s.data.toList 34 inV 110 a2 n2 (by rw [hL]; exact hl2.2)
  rw [h3, hL] at hl3
  simp only at hl1 hl2 hl3
  unfold otagS at hR
  have hV : mkS (inkV s.data.toList 34 inV 110 a2 n2) = if n3 then ⟨#[]⟩ else mkS V := by
    unfold inkV; rw [h3]; cases n3 <;> rfl
  simp only [h1, h2, h3, h4] at hR
  obtain ⟨rfl, rfl, rfl⟩ : (⟨mkS (cutL s.data.toList a a1), mkS (inkV s.data.toList 34 inV 110 a2 n2), a, a2⟩ : MTag) = T ∧ a4 = a' ∧ n4 = no' := by
    injection hR with e1 e2; injection e2 with e3 e4; exact ⟨e1, e3, e4⟩
  have kA := fun W a no h => at_any g s a no W h
  have kN := fun W h => name_olabel r g rv s a no a1 n1 W h ha hs h1
  have kW := fun W h => word_any g s ⟨#[61, 34]⟩ a1 n1 a2 n2 W h hl1.2 hs2 (by decide) h2
  have kI := fun W h => inked_any g s ⟨#[92, 34, 110]⟩ 34 a2 n2 V a3 n3 W h hl2.2 hs h3
  have kW2 := fun W h => word_any g s ⟨#[34]⟩ a3 n3 a4 n4 W h hl3.2.1 hs2 (by decide) h4
  simp only
  rw [hV]
  clear hR h1 h2 h3 h4 hV
  generalize (if n3 = true then (⟨#[]⟩ : ByteArray) else mkS V) = V2 at kI ⊢
  generalize mkS (cutL s.data.toList a a1) = V1 at kN ⊢
  have hr := Blk.lt h.rd
  have hg := Blk.lt h.sc
  have U1 : LU w ((w.alloc (.cells #[.string ⟨#[]⟩, .string ⟨#[]⟩, .int .i64 0, .int .i64 0] 45)).alloc (.cells #[.string ⟨#[]⟩, .string ⟨#[]⟩, .int .i64 (a : Int), .int .i64 0] 45)) r g rv s a no (w.heap.size + 1) ⟨#[]⟩ ⟨#[]⟩ a 0 w.heap.size :=
    ⟨(h.alloc _).alloc _, by
      have := Blk.new (w.alloc (.cells #[.string ⟨#[]⟩, .string ⟨#[]⟩, .int .i64 0, .int .i64 0] 45)) 45 #[.string ⟨#[]⟩, .string ⟨#[]⟩, .int .i64 (a : Int), .int .i64 0]
      simpa [Tg] using this, Blk.alloc (Blk.new w _ _) _, ⟨by omega, by omega, by omega, by omega⟩, by omega, by omega, Nat.le_refl _⟩
  have x0 := (h.alloc (.cells #[.string ⟨#[]⟩, .string ⟨#[]⟩, .int .i64 0, .int .i64 0] 45)).facts
  have x1 := U1.lr.facts
  obtain ⟨_, f10, _⟩ := U1.tg.facts
  go_enter Tryz.func194, Tryz.ntmps194
  go_wp2_with (first
    | (go_at_call 30; (with_reducible refine (kA _ a no (h.alloc _).sc).mono ?_); rintro e w1 ⟨rfl, rfl⟩)
    | (go_at_call 148; (with_reducible refine (kN _ U1.lr.self).mono ?_); rintro e w2 ⟨rfl, h2⟩; have U2 := U1.scan h2.aw h2.sc (by simp); have x2 := U2.lr.facts; obtain ⟨_, f20, _⟩ := U2.tg.facts; have U3 := U2.name V1; have x3 := U3.lr.facts)
    | (go_at_call 57; (with_reducible refine (kW _ U3.lr.sc).mono ?_); rintro e w4 ⟨rfl, h4, hA4⟩; have U4 := U3.scan hA4 h4 (by simp); have x4 := U4.lr.facts; obtain ⟨_, _, _, _, f43⟩ := U4.tg.facts; have U5 := U4.pos_ a2; have x5 := U5.lr.facts)
    | (go_at_call 30; (with_reducible refine (kA _ a2 n2 U4.lr.sc).mono ?_); rintro e w5 ⟨rfl, rfl⟩)
    | (go_at_call 154; (with_reducible refine (kI _ U5.lr.sc).mono ?_); rintro e w6 ⟨rfl, h6, hA6⟩; have U6 := U5.scan hA6 h6 (by simp); have x6 := U6.lr.facts; obtain ⟨_, _, f61, _⟩ := U6.tg.facts; have U7 := U6.val V2; have x7 := U7.lr.facts)
    | (go_at_call 57; (with_reducible refine (kW2 _ U7.lr.sc).mono ?_); rintro e w8 ⟨rfl, h8, hA8⟩; have U8 := U7.scan hA8 h8 (by simp); obtain ⟨⟨c0, c1, c2, c3⟩, _⟩ := U8.tg.facts; obtain ⟨⟨e0, e1, e2, e3⟩, v0, v1, v2, v3⟩ := U8.tu.facts))
  have L9 := U8.out
  exact bodyPost_ret (v := .agg #[.string V1, .string V2, .int .i64 (a : Int), .int .i64 (a2 : Int)]) (by simp [results, Tryz.results194, go_sem, e0, e1, e2, e3]) rfl ⟨rfl, L9⟩
end
section
theorem otagsGo_step (l : List UInt8) (f a : Nat) (no : Bool) (acc : List MTag) : otagsGo l (f + 1) a no acc = if no then (acc, a, true) else if isB l (otagS l a false).2.1 (otagS l a false).2.2 44 then otagsGo l f ((otagS l a false).2.1 + 1) false (acc ++ [(otagS l a false).1]) else (acc ++ [(otagS l a false).1], (otagS l a false).2) := rfl
set_option maxRecDepth 100000 in
set_option maxHeartbeats 6400000 in
theorem otags_any (r g : Nat) (rv : Value) (s : ByteArray) (a : Nat) (no : Bool) (T : List MTag) (a' : Nat) (no' : Bool) (w : World) (h : LR w w r g rv s a no) (ha : a ≤ s.size) (hs : s.size ≤ 1048576) (hR : otagsS s.data.toList a no = (T, a', no')) :
    Calls Tryz.prog 150 #[.pointer (some ⟨r, 0, none⟩)] w fun e w' => ∃ A c, e = .returned (.slice A T.length c) ∧ w'.ownsRow w.heap.size 45 4 (.slice A T.length c) T.length (T.flatMap tagCell) ∧ LR w w' r g rv s a' no' := by
  have hL : s.data.toList.length = s.size := by simp
  have HL := Lib.hid hL
  have hs2 : s.size ≤ 4611686018427387904 := Nat.le_trans hs (by decide)
  have hr := Blk.lt h.rd
  have hg := Blk.lt h.sc
  have x0 := h.facts
  have kT := fun W h => takes_any g s a no 123 W h ha hs2
  unfold takeA at kT
  unfold otagsS at hR
  cases hq : isB s.data.toList a no 123
  case false =>
    simp only [hq, Bool.false_eq_true, if_false] at kT hR
    obtain ⟨rfl, rfl, rfl⟩ : [] = T ∧ a = a' ∧ no = no' := by injection hR with e1 e2; injection e2 with e3 e4; exact ⟨e1, e3, e4⟩
    go_enter Tryz.func150, Tryz.ntmps150
    go_wp2_with (first
      | (go_at_call 110; (with_reducible refine (kT _ h.sc).mono ?_); rintro e w1 ⟨rfl, h1, hA1⟩; have L1 := h.scan hA1 h1 (by simp)))
    go_ret
    exact ⟨_, _, rfl, World.ownsRow_nil _ _ _ _, L1⟩
  case true =>
    obtain ⟨hlt, hno, _⟩ := isB_lt hq
    rw [hL] at hlt
    subst hno
    simp only [hq, if_true] at kT hR
    have kT2 := fun W h => takes_any g s (a + 1) false 125 W h (by omega) hs2
    unfold takeA at kT2
    cases hq2 : isB s.data.toList (a + 1) false 125
    case true =>
      simp only [hq2, if_true] at kT2 hR
      obtain ⟨rfl, rfl, rfl⟩ : [] = T ∧ a + 2 = a' ∧ false = no' := by injection hR with e1 e2; injection e2 with e3 e4; exact ⟨e1, e3, e4⟩
      go_enter Tryz.func150, Tryz.ntmps150
      go_wp2_with (first
        | (go_at_call 110; (with_reducible refine (kT _ h.sc).mono ?_); rintro e w1 ⟨rfl, h1, hA1⟩; have L1 := h.scan hA1 h1 (by simp); have x1 := L1.facts)
        | (go_at_call 110; (with_reducible refine (kT2 _ L1.sc).mono ?_); rintro e w2 ⟨rfl, h2, hA2⟩; have L2 := L1.scan hA2 h2 (by simp)))
      go_ret
      exact ⟨_, _, rfl, World.ownsRow_nil _ _ _ _, L2⟩
    case false =>
      simp only [hq2, Bool.false_eq_true, if_false] at kT2 hR
      obtain ⟨T1, a1, n1, h1⟩ : ∃ T1 a1 n1, otagsGo s.data.toList (s.data.toList.length + 1) (a + 1) false [] = (T1, a1, n1) := ⟨_, _, _, rfl⟩
      obtain ⟨a2, n2, h2⟩ : ∃ a2 n2, wordS s.data.toList [125] a1 n1 = (a2, n2) := ⟨_, _, rfl⟩
      simp only [h1, h2] at hR
      obtain ⟨rfl, rfl, rfl⟩ : T1 = T ∧ a2 = a' ∧ n2 = no' := by injection hR with e1 e2; injection e2 with e3 e4; exact ⟨e1, e3, e4⟩
      have hl1 := otagsGo_le (l := s.data.toList) (s.data.toList.length + 1) (a + 1) false [] (by rw [hL]; omega)
      rw [h1, hL] at hl1
      simp only at hl1
      have kW := fun W h => word_any g s ⟨#[125]⟩ a1 n1 a2 n2 W h hl1.2 hs2 (by decide) h2
      have H1 := Lib.hid h1
      obtain ⟨i0, hi0, hz0, hz1, hz2⟩ := info_parts Tryz.infoTag
      have hut : Tryz.prog.underlying 40 = some (.slice 45) := by kernel_rfl
      clear hR h1 h2 hq hq2 hL
      go_enter Tryz.func150, Tryz.ntmps150
      go_wp2_with (first
        | (go_at_call 110; (with_reducible refine (kT _ h.sc).mono ?_); rintro e w1 ⟨rfl, h1, hA1⟩; have L1 := h.scan hA1 h1 (by simp); have x1 := L1.facts)
        | (go_at_call 110; (with_reducible refine (kT2 _ L1.sc).mono ?_); rintro e w2 ⟨rfl, h2, hA2⟩; have L2 := L1.scan hA2 h2 (by simp)))
      clear kT kT2
      go_loopw [3] (fun v wr => ∃ (p f : Nat) (np : Bool) (acc : List MTag) (tv : Value), v = tv ∧ p ≤ s.size ∧ s.size < f + p ∧ acc.length ≤ p ∧ LR w wr r g rv s p np ∧ wr.ownsRow w.heap.size 45 4 tv acc.length (acc.flatMap tagCell) ∧ Hid (otagsGo s.data.toList f p np acc = (T1, a1, n1))) (fun _ wr => mOf wr g s)
      case atStart => exact ⟨a + 1, _, false, [], _, rfl, by omega, by (have := HL.out; omega), by simp, L2, World.ownsRow_nil _ _ _ _, H1⟩
      case round =>
        clear L2 L1 x1 h2 hA2 h1 hA1 H1
        obtain ⟨p, f, np, acc, tv, rfl, hp, hf, hacc, hX, hown, HT⟩ := hrel
        have hm0 := hX.sc.mOf
        have z0 := hX.facts
        have kS := fun W h => stopped_any g s p np W h
        obtain ⟨f, rfl⟩ : ∃ f', f = f' + 1 := ⟨f - 1, by omega⟩
        have hT := HT.out
        rw [otagsGo_step] at hT
        cases np
        case true =>
          simp only [if_true] at hT
          obtain ⟨rfl, rfl, rfl⟩ : acc = T1 ∧ p = a1 ∧ true = n1 := by injection hT with e1 e2; injection e2 with e3 e4; exact ⟨e1, e3, e4⟩
          clear hT HT
          go_wp2_with (first
            | (go_at_call 29; (with_reducible refine (kS _ hX.sc).mono ?_); rintro e w3 ⟨rfl, rfl⟩)
            | (go_at_call 57; (with_reducible refine (kW _ hX.sc).mono ?_); rintro e w4 ⟨rfl, h4, hA4⟩; have L4 := hX.scan hA4 h4 (by simp); have hown4 := own_aw hown hA4 (fun i hi e => by simp only [List.mem_cons, List.not_mem_nil, or_false] at e; subst e; have := (hown.lt _ hi).1; omega); obtain ⟨A, c, rfl⟩ := own_form hown4; have hrd := rows_reads (f := tagCell) (fun _ => rfl) (by decide) (own_rows2 (f := tagCell) (fun _ => rfl) hown4 rfl))
            | (at_builtin; refine wpList_append_any _ (by rfl) (.const (.slice none 0 0)) (.tmp 39) _ (by rfl) w.heap.size 45 i0 _ 4 48 hut hi0 hz0 hz1 hz2 rfl (by omega) _ 0 [] (by rfl) (World.ownsRow_nil _ _ _ _) w4.heap.size _ acc.length _ _ (by rfl) hrd (by intro u hu; obtain ⟨x, _, hx⟩ := List.mem_flatMap.1 hu; simp only [tagCell, List.mem_cons, List.not_mem_nil, or_false] at hx; rcases hx with rfl | rfl | rfl | rfl <;> rfl) (by simp [maxLen]; omega) (by omega) L4.aw.size ?_; intro v5 w5 hown5 hg5 hat5))
          rw [Nat.zero_add, List.nil_append] at hown5
          obtain ⟨A5, c5, rfl⟩ := own_form hown5
          have L5 := L4.app (World.ownsRow_nil _ _ 45 4) ((Aw.refl _ _).grown hg5 (fun k hk => .inl (by simpa using hk))) hr hg
          go_ret
          exact ⟨_, _, rfl, hown5, L5⟩
        case false =>
          obtain ⟨X, p2, np2, hX2⟩ : ∃ X p2 np2, otagS s.data.toList p false = (X, p2, np2) := ⟨_, _, _, rfl⟩
          rw [hX2] at hT
          have hle := otagS_le (l := s.data.toList) false (show p ≤ s.data.toList.length by rw [HL.out]; omega)
          rw [hX2, HL.out] at hle
          simp only at hle
          have kG := fun W h => otag_any r g rv s p false X p2 np2 W h hp hs hX2
          have kT := fun W h => takes_any g s p2 np2 44 W h hle.2 hs2
          unfold takeA at kT
          simp only [Bool.false_eq_true, if_false] at hT
          cases hq : isB s.data.toList p2 np2 44
          case false =>
            simp only [hq, Bool.false_eq_true, if_false] at kT hT
            obtain ⟨rfl, rfl, rfl⟩ : acc ++ [X] = T1 ∧ p2 = a1 ∧ np2 = n1 := by injection hT with e1 e2; injection e2 with e3 e4; exact ⟨e1, e3, e4⟩
            clear hT HT hX2
            go_wp2_with (first
              | (go_at_call 29; (with_reducible refine (kS _ hX.sc).mono ?_); rintro e w3 ⟨rfl, rfl⟩)
              | (go_at_call 194; (with_reducible refine (kG _ hX.self).mono ?_); rintro e w4 ⟨rfl, h4⟩; have L4 := hX.rebase h4; have hown4 := own_aw hown h4.aw (fun i hi e => by simp only [List.mem_cons, List.not_mem_nil, or_false] at e; subst e; have := (hown.lt _ hi).1; omega))
              | (at_builtin; refine wpList_append_lies _ (by rfl) _ _ _ (by rfl) w.heap.size 45 i0 _ 4 48 hut hi0 hz0 hz1 hz2 rfl (by omega) _ acc.length (acc.flatMap tagCell) (by rfl) (hown4.alloc _) ⟨w4.heap.size, 0, none⟩ 1 1 (tagCell X) (by rfl) (by rfl) (World.news_of_block (heap_alloc_new w4 _)) (by simp [tagCell, Value.oneCell']) (by omega) (by simp [maxLen]; omega) (by omega) (by have := L4.aw.size; simp; omega) (w4.heap.size + 1) (by simp) ?_; intro gg capg w5 hown5 hgrow hat5 hlt5; have L5 := L4.app hown4 (((Aw.refl _ _).alloc _).grown hgrow (fun k hk => .inl (by simpa using hk))) hr hg; have x5 := L5.facts)
              | (go_at_call 110; (with_reducible refine (kT _ L5.sc).mono ?_); rintro e w6 ⟨rfl, h6, hA6⟩; have L6 := L5.scan hA6 h6 (by simp); have x6 := L6.facts; have hown6 := own_aw hown5 hA6 (fun i hi e => by simp only [List.mem_cons, List.not_mem_nil, or_false] at e; subst e; have := (hown5.lt _ hi).1; omega))
              | (go_at_call 57; (with_reducible refine (kW _ L6.sc).mono ?_); rintro e w7 ⟨rfl, h7, hA7⟩; have L7 := L6.scan hA7 h7 (by simp); have hown7 := own_aw hown6 hA7 (fun i hi e => by simp only [List.mem_cons, List.not_mem_nil, or_false] at e; subst e; have := (hown6.lt _ hi).1; omega); rw [show acc.flatMap tagCell ++ tagCell X = (acc ++ [X]).flatMap tagCell by simp] at hown7; have hrd := rows_reads (f := tagCell) (l := acc ++ [X]) (fun _ => rfl) (by decide) (own_rows2 (f := tagCell) (fun _ => rfl) hown7 (by simp)))
              | (at_builtin; go_loud (refine wpList_append_any _ (by rfl) (.const (.slice none 0 0)) (.tmp 39) _ (by rfl) w.heap.size 45 i0 _ 4 48 hut hi0 hz0 hz1 hz2 rfl (by omega) _ 0 [] (by rfl) (World.ownsRow_nil _ _ _ _) w7.heap.size _ (acc.length + 1) _ _ (by rfl) hrd (by intro u hu; obtain ⟨x, _, hx⟩ := List.mem_flatMap.1 hu; simp only [tagCell, List.mem_cons, List.not_mem_nil, or_false] at hx; rcases hx with rfl | rfl | rfl | rfl <;> rfl) (by simp [maxLen]; omega) (by omega) L7.aw.size ?_); intro v5 w5 hown5 hg5 hat5))
            rw [Nat.zero_add, List.nil_append] at hown5
            obtain ⟨A5, c5, rfl⟩ := own_form hown5
            have L8 := L7.app (World.ownsRow_nil _ _ 45 4) ((Aw.refl _ _).grown hg5 (fun k hk => .inl (by simpa using hk))) hr hg
            go_ret
            exact ⟨A5, c5, by simp, by simpa using hown5, L8⟩
          case true =>
            obtain ⟨hlt, hnp, _⟩ := isB_lt hq
            rw [HL.out] at hlt
            subst hnp
            simp only [hq, if_true] at kT hT
            have HT2 := Lib.hid hT
            clear hT HT hX2
            go_wp2_with (first
              | (go_at_call 29; (with_reducible refine (kS _ hX.sc).mono ?_); rintro e w3 ⟨rfl, rfl⟩)
              | (go_at_call 194; (with_reducible refine (kG _ hX.self).mono ?_); rintro e w4 ⟨rfl, h4⟩; have L4 := hX.rebase h4; have hown4 := own_aw hown h4.aw (fun i hi e => by simp only [List.mem_cons, List.not_mem_nil, or_false] at e; subst e; have := (hown.lt _ hi).1; omega))
              | (at_builtin; refine wpList_append_lies _ (by rfl) _ _ _ (by rfl) w.heap.size 45 i0 _ 4 48 hut hi0 hz0 hz1 hz2 rfl (by omega) _ acc.length (acc.flatMap tagCell) (by rfl) (hown4.alloc _) ⟨w4.heap.size, 0, none⟩ 1 1 (tagCell X) (by rfl) (by rfl) (World.news_of_block (heap_alloc_new w4 _)) (by simp [tagCell, Value.oneCell']) (by omega) (by simp [maxLen]; omega) (by omega) (by have := L4.aw.size; simp; omega) (w4.heap.size + 1) (by simp) ?_; intro gg capg w5 hown5 hgrow hat5 hlt5; have L5 := L4.app hown4 (((Aw.refl _ _).alloc _).grown hgrow (fun k hk => .inl (by simpa using hk))) hr hg; have x5 := L5.facts)
              | (go_at_call 110; (with_reducible refine (kT _ L5.sc).mono ?_); rintro e w6 ⟨rfl, h6, hA6⟩; have L6 := L5.scan hA6 h6 (by simp); have hown6 := own_aw hown5 hA6 (fun i hi e => by simp only [List.mem_cons, List.not_mem_nil, or_false] at e; subst e; have := (hown5.lt _ hi).1; omega)))
            refine ⟨⟨p2 + 1, f, false, acc ++ [X], _, rfl, by omega, by omega, by simp; omega, L6, by simpa using hown6, HT2⟩, ?_⟩
            rw [L6.sc.mOf, hm0]
            simp; omega
end
section
/-- What a line's walk shows: one more row. -/
def OneRow (w : World) (r g : Nat) (rv : Value) (s : ByteArray) (base n : Nat) (xs : List Value) (R : MRow) (a' : Nat) (no' : Bool) (w' : World) : Prop :=
  ∃ rv' x, x.row = R ∧ Rd w' r g rv' ∧ Sc w' g s a' no' ∧ w'.ownsRow base 43 10 rv' (n + 1) (xs ++ rowCell x) ∧ OwnV w' base x ∧ Aw (g :: r :: rv.ownBlock.toList) w w'
set_option maxRecDepth 100000 in
set_option maxHeartbeats 6400000 in
theorem samp_any (r g : Nat) (rv : Value) (s : ByteArray) (a : Nat) (no : Bool) (R : MRow) (a' : Nat) (no' : Bool) (base n : Nat) (xs : List Value) (w : World) (h : LR w w r g rv s a no) (hown : w.ownsRow base 43 10 rv n xs) (hb : base ≤ w.heap.size) (hn : n ≤ 1048577) (ha : a ≤ s.size) (hs : s.size ≤ 1048576) (hR : sampS s.data.toList a no = (R, a', no')) :
    Calls Tryz.prog 108 #[.pointer (some ⟨r, 0, none⟩)] w fun e w' => e = .returned (.tuple #[]) ∧ OneRow w r g rv s base n xs R a' no' w' := by
  have hL : s.data.toList.length = s.size := by simp
  have hs2 : s.size ≤ 4611686018427387904 := Nat.le_trans hs (by decide)
  have hr := Blk.lt h.rd
  have hg := Blk.lt h.sc
  obtain ⟨a1, n1, h1⟩ : ∃ a1 n1, nmS s.data.toList owName a no = (a1, n1) := ⟨_, _, rfl⟩
  obtain ⟨T, a2, n2, h2⟩ : ∃ T a2 n2, otagsS s.data.toList a1 n1 = (T, a2, n2) := ⟨_, _, _, rfl⟩
  obtain ⟨a3, n3, h3⟩ : ∃ a3 n3, wordS s.data.toList [32] a2 n2 = (a3, n3) := ⟨_, _, rfl⟩
  obtain ⟨a4, n4, h4⟩ : ∃ a4 n4, decS s.data.toList a3 n3 = (a4, n4) := ⟨_, _, rfl⟩
  have hl1 := nmS_le (l := s.data.toList) owName no (by rw [hL]; exact ha)
  rw [h1, hL] at hl1
  have hl2 := otagsS_le (l := s.data.toList) n1 (by rw [hL]; exact hl1.2)
  rw [h2, hL] at hl2
  have hl3 := wordS_le s.data.toList [32] a2 n2 (by rw [hL]; exact hl2.2)
  rw [h3, hL] at hl3
  have hl4 := decS_le s.data.toList a3 n3 (by rw [hL]; exact hl3.2)
  rw [h4, hL] at hl4
  simp only at hl1 hl2 hl3 hl4
  unfold sampS at hR
  simp only [h1, h2, h3, h4] at hR
  have kA := fun W a no h => at_any g s a no W h
  have kN := fun W h => name_oname r g rv s a no a1 n1 W h ha hs h1
  have kG := fun W h => otags_any r g rv s a1 n1 T a2 n2 W h hl1.2 hs h2
  have kW := fun W h => word_any g s ⟨#[32]⟩ a2 n2 a3 n3 W h hl2.2 hs2 (by decide) h3
  have kD := fun W h => dec_any g s a3 n3 a4 n4 W h hl3.2 hs2 h4
  rw [ext_cut] at kD
  have kT := fun W h => takes_any g s a4 n4 32 W h hl4.2 hs2
  unfold takeA at kT
  generalize mkS (cutL s.data.toList a a1) = V1 at kN hR
  generalize mkS (cutL s.data.toList a3 a4) = V5 at kD hR
  obtain ⟨i2, hi2, jz0, jz1, jz2⟩ := info_parts Tryz.infoRow
  have hur : Tryz.prog.underlying 37 = some (.slice 43) := by kernel_rfl
  have L1 : LX w (w.alloc (.cells #[.int .i64 0, .string ⟨#[]⟩, .int .i64 (a : Int), .slice none 0 0, .slice none 0 0, .string ⟨#[]⟩, .int .i64 0, .bool false, .string ⟨#[]⟩, .int .i64 0] 43)) r g w.heap.size rv s a no 0 ⟨#[]⟩ a (.slice none 0 0) [] ⟨#[]⟩ 0 false ⟨#[]⟩ 0 :=
    ⟨h.alloc _, by
      have := Blk.new w 43 #[.int .i64 0, .string ⟨#[]⟩, .int .i64 (a : Int), .slice none 0 0, .slice none 0 0, .string ⟨#[]⟩, .int .i64 0, .bool false, .string ⟨#[]⟩, .int .i64 0]
      simpa [Rw] using this, World.ownsRow_nil _ _ _ _, hr, hg, Nat.le_refl _⟩
  have x0 := h.facts
  have x1 := L1.facts
  clear h1 h2 h3 h4 hL
  cases hq : isB s.data.toList a4 n4 32
  case false =>
    simp only [hq, Bool.false_eq_true, if_false] at kT hR
    obtain ⟨a5, n5, h5⟩ : ∃ a5 n5, wordS s.data.toList [10] a4 n4 = (a5, n5) := ⟨_, _, rfl⟩
    simp only [h5] at hR
    obtain ⟨rfl, rfl, rfl⟩ : (⟨0, V1, a, T, [], V5, a3, false, mkS [], 0⟩ : MRow) = R ∧ a5 = a' ∧ n5 = no' := by
      injection hR with e1 e2; injection e2 with e3 e4; exact ⟨e1, e3, e4⟩
    have kF := fun W h => word_any g s ⟨#[10]⟩ a4 n4 a5 n5 W h hl4.2 hs2 (by decide) h5
    clear hR h5 hq
    go_enter Tryz.func108, Tryz.ntmps108
    go_upto_region 10 with (first
      | (go_at_call 30; (with_reducible refine (kA _ a no h.sc).mono ?_); rintro e w1 ⟨rfl, rfl⟩)
      | (go_at_call 148; (with_reducible refine (kN _ L1.lr.self).mono ?_); rintro e w2 ⟨rfl, h2⟩; have L2 := L1.call h2; have x2 := L2.facts; obtain ⟨_, _, f2, _⟩ := L2.rw_.facts; have L3 := L2.name V1; have x3 := L3.facts)
      | (go_at_call 150; (with_reducible refine (kG _ L3.lr.self).mono ?_); rintro e w4 ⟨tA, tc, rfl, o4, h4⟩; have L4 := L3.call h4; have x4 := L4.facts; obtain ⟨_, _, _, _, f4, _⟩ := L4.rw_.facts; have L5 := L4.tagsAll (own_more o4 L3.lr.aw.size); have x5 := L5.facts)
      | (go_at_call 57; (with_reducible refine (kW _ L5.lr.sc).mono ?_); rintro e w6 ⟨rfl, h6, hA6⟩; have L6 := L5.scan hA6 h6 (by simp); have x6 := L6.facts; obtain ⟨_, _, _, _, _, _, _, f6, _⟩ := L6.rw_.facts; have L7 := L6.pos_ a3; have x7 := L7.facts)
      | (go_at_call 30; (with_reducible refine (kA _ a3 n3 L6.lr.sc).mono ?_); rintro e w7 ⟨rfl, rfl⟩)
      | (go_at_call 151; (with_reducible refine (kD _ L7.lr.sc).mono ?_); rintro e w8 ⟨rfl, h8, hA8⟩; have L8 := L7.scan hA8 h8 (by simp); have x8 := L8.facts; obtain ⟨_, _, _, _, _, _, f8, _⟩ := L8.rw_.facts; have L9 := L8.text_ V5; have x9 := L9.facts)
      | (go_at_call 110; (with_reducible refine (kT _ L9.lr.sc).mono ?_); rintro e w10 ⟨rfl, h10, hA10⟩; have L10 := L9.scan hA10 h10 (by simp); have x10 := L10.facts)
      | (go_at_call 57; (with_reducible refine (kF _ L10.lr.sc).mono ?_); rintro e w15 ⟨rfl, h15, hA15⟩; have L15 := L10.scan hA15 h15 (by simp); have x15 := L15.facts))
    obtain ⟨X, hX⟩ : ∃ X : VRow, X = rowOf 0 V1 a tA T tc V5 a3 false ⟨#[]⟩ 0 := ⟨_, rfl⟩
    have hown5 : w15.drew.ownsRow base 43 10 rv n xs := own_aw hown L15.lr.aw.drew (fun k hk e => by
      rw [List.mem_singleton] at e
      subst e; exact own_blk_ne hown h.sc (by decide) hk)
    obtain ⟨_, y2, y3⟩ := L15.lr.rd.facts
    obtain ⟨⟨q0, q1, q2, q3, q4, q5, q6, q7, q8, q9⟩, _⟩ := L15.rw_.facts
    obtain ⟨m0, m1, m2⟩ := Rd.facts (Blk.alloc L15.lr.rd (.cells #[.int .i64 0, .string V1, .int .i64 (a : Int), .slice tA T.length tc, .slice none 0 0, .string V5, .int .i64 (a3 : Int), .bool false, .string ⟨#[]⟩, .int .i64 0] 43))
    go_region_law (refine step_append_lies _ (by rfl) _ _ _ (by rfl) base 43 i2 _ 10 136 hur hi2 jz0 jz1 jz2 rfl (by omega) rv n xs (by rfl) (hown5.alloc _) ⟨w15.heap.size, 0, none⟩ 1 1 (rowCell X) (by rfl) (by rfl) (by rw [hX]; exact World.news_of_block (heap_alloc_new w15.drew _)) (by rw [hX]; simp [rowCell, rowOf, Value.oneCell']) (by omega) (by simp [maxLen]; omega) (by omega) (by have := L15.lr.aw.size; simp; omega) (w15.heap.size + 1) (by simp) ?_; intro gg capg w18 hown18 hgrow hat18 hlt18; rw [hX] at hown18; have hfin := line_end (rv' := .slice (some ⟨gg, 0, none⟩) (n + 1) capg) L15.drew hown5 hb (((Aw.refl _ _).alloc _).grown hgrow (fun k hk => .inl (by simpa using hk))) hown18; obtain ⟨g0, g1, g2⟩ := Rd.facts (Blk.grown (w := _) (Blk.alloc L15.drew.lr.rd _) hgrow (fun e => own_blk_ne hown5 L15.drew.lr.rd (by decide) e.symm)))
    all_goals
      go_wp2_with fail
      go_end0
      exact ⟨rfl, _, _, rfl, hfin⟩
  case true =>
    simp only [hq, if_true] at kT hR
    obtain ⟨hlt, hn4, _⟩ := isB_lt hq
    have hlt' : a4 < s.size := by simpa using hlt
    subst hn4
    obtain ⟨a6, n6, h6⟩ : ∃ a6 n6, decS s.data.toList (a4 + 1) false = (a6, n6) := ⟨_, _, rfl⟩
    obtain ⟨a5, n5, h5⟩ : ∃ a5 n5, wordS s.data.toList [10] a6 n6 = (a5, n5) := ⟨_, _, rfl⟩
    have hl6 := decS_le s.data.toList (a4 + 1) false (by omega)
    rw [h6] at hl6
    have hl6' : a6 ≤ s.size := by simpa using hl6.2
    simp only [h6, h5] at hR
    have kD2 := fun W h => dec_any g s (a4 + 1) false a6 n6 W h (by omega) hs2 h6
    rw [ext_cut] at kD2
    generalize mkS (cutL s.data.toList (a4 + 1) a6) = V8 at kD2 hR
    obtain ⟨rfl, rfl, rfl⟩ : (⟨0, V1, a, T, [], V5, a3, true, V8, a4 + 1⟩ : MRow) = R ∧ a5 = a' ∧ n5 = no' := by
      injection hR with e1 e2; injection e2 with e3 e4; exact ⟨e1, e3, e4⟩
    have kF := fun W h => word_any g s ⟨#[10]⟩ a6 n6 a5 n5 W h hl6' hs2 (by decide) h5
    clear hR h5 hq h6 hlt hl6
    generalize hp : a4 + 1 = p at kT kD2 ⊢
    clear hp
    go_enter Tryz.func108, Tryz.ntmps108
    go_upto_region 10 with (first
      | (go_at_call 30; (with_reducible refine (kA _ a no h.sc).mono ?_); rintro e w1 ⟨rfl, rfl⟩)
      | (go_at_call 148; (with_reducible refine (kN _ L1.lr.self).mono ?_); rintro e w2 ⟨rfl, h2⟩; have L2 := L1.call h2; have x2 := L2.facts; obtain ⟨_, _, f2, _⟩ := L2.rw_.facts; have L3 := L2.name V1; have x3 := L3.facts)
      | (go_at_call 150; (with_reducible refine (kG _ L3.lr.self).mono ?_); rintro e w4 ⟨tA, tc, rfl, o4, h4⟩; have L4 := L3.call h4; have x4 := L4.facts; obtain ⟨_, _, _, _, f4, _⟩ := L4.rw_.facts; have L5 := L4.tagsAll (own_more o4 L3.lr.aw.size); have x5 := L5.facts)
      | (go_at_call 57; (with_reducible refine (kW _ L5.lr.sc).mono ?_); rintro e w6 ⟨rfl, h6, hA6⟩; have L6 := L5.scan hA6 h6 (by simp); have x6 := L6.facts; obtain ⟨_, _, _, _, _, _, _, f6, _⟩ := L6.rw_.facts; have L7 := L6.pos_ a3; have x7 := L7.facts)
      | (go_at_call 30; (with_reducible refine (kA _ a3 n3 L6.lr.sc).mono ?_); rintro e w7 ⟨rfl, rfl⟩)
      | (go_at_call 151; (with_reducible refine (kD _ L7.lr.sc).mono ?_); rintro e w8 ⟨rfl, h8, hA8⟩; have L8 := L7.scan hA8 h8 (by simp); have x8 := L8.facts; obtain ⟨_, _, _, _, _, _, f8, _⟩ := L8.rw_.facts; have L9 := L8.text_ V5; have x9 := L9.facts)
      | (go_at_call 110; (with_reducible refine (kT _ L9.lr.sc).mono ?_); rintro e w10 ⟨rfl, h10, hA10⟩; have L10 := L9.scan hA10 h10 (by simp); have x10 := L10.facts; obtain ⟨_, _, _, _, _, _, _, _, f10, _⟩ := L10.rw_.facts; have L11 := L10.timed_ true; obtain ⟨_, _, _, _, _, _, _, _, _, _, f11⟩ := L11.rw_.facts; have L12 := L11.when_ p; have x12 := L12.facts)
      | (go_at_call 30; (with_reducible refine (kA _ p false L10.lr.sc).mono ?_); rintro e w11 ⟨rfl, rfl⟩)
      | (go_at_call 151; (with_reducible refine (kD2 _ L12.lr.sc).mono ?_); rintro e w13 ⟨rfl, h13, hA13⟩; have L13 := L12.scan hA13 h13 (by simp); have x13 := L13.facts; obtain ⟨_, _, _, _, _, _, _, _, _, f13, _⟩ := L13.rw_.facts; have L14 := L13.time_ V8; have x14 := L14.facts)
      | (go_at_call 57; (with_reducible refine (kF _ L14.lr.sc).mono ?_); rintro e w15 ⟨rfl, h15, hA15⟩; have L15 := L14.scan hA15 h15 (by simp); have x15 := L15.facts))
    obtain ⟨X, hX⟩ : ∃ X : VRow, X = rowOf 0 V1 a tA T tc V5 a3 true V8 p := ⟨_, rfl⟩
    have hown5 : w15.drew.ownsRow base 43 10 rv n xs := own_aw hown L15.lr.aw.drew (fun k hk e => by
      rw [List.mem_singleton] at e
      subst e; exact own_blk_ne hown h.sc (by decide) hk)
    obtain ⟨_, y2, y3⟩ := L15.lr.rd.facts
    obtain ⟨⟨q0, q1, q2, q3, q4, q5, q6, q7, q8, q9⟩, _⟩ := L15.rw_.facts
    obtain ⟨m0, m1, m2⟩ := Rd.facts (Blk.alloc L15.lr.rd (.cells #[.int .i64 0, .string V1, .int .i64 (a : Int), .slice tA T.length tc, .slice none 0 0, .string V5, .int .i64 (a3 : Int), .bool true, .string V8, .int .i64 (p : Int)] 43))
    go_region_law (refine step_append_lies _ (by rfl) _ _ _ (by rfl) base 43 i2 _ 10 136 hur hi2 jz0 jz1 jz2 rfl (by omega) rv n xs (by rfl) (hown5.alloc _) ⟨w15.heap.size, 0, none⟩ 1 1 (rowCell X) (by rfl) (by rfl) (by rw [hX]; exact World.news_of_block (heap_alloc_new w15.drew _)) (by rw [hX]; simp [rowCell, rowOf, Value.oneCell']) (by omega) (by simp [maxLen]; omega) (by omega) (by have := L15.lr.aw.size; simp; omega) (w15.heap.size + 1) (by simp) ?_; intro gg capg w18 hown18 hgrow hat18 hlt18; rw [hX] at hown18; have hfin := line_end (rv' := .slice (some ⟨gg, 0, none⟩) (n + 1) capg) L15.drew hown5 hb (((Aw.refl _ _).alloc _).grown hgrow (fun k hk => .inl (by simpa using hk))) hown18; obtain ⟨g0, g1, g2⟩ := Rd.facts (Blk.grown (w := _) (Blk.alloc L15.drew.lr.rd _) hgrow (fun e => own_blk_ne hown5 L15.drew.lr.rd (by decide) e.symm)))
    all_goals
      go_wp2_with fail
      go_end0
      exact ⟨rfl, _, _, rfl, hfin⟩
end
section
set_option maxRecDepth 100000 in
set_option maxHeartbeats 6400000 in
theorem told1_any (wd : ByteArray) (word : List UInt8) (hwd : (wd ++ (⟨#[32]⟩ : ByteArray)).data.toList = word) (hws : wd.size ≤ 100) (r g : Nat) (rv : Value) (s : ByteArray) (a : Nat) (no : Bool) (R : MRow) (a' : Nat) (no' : Bool) (base n : Nat) (xs : List Value) (w : World) (h : LR w w r g rv s a no) (hown : w.ownsRow base 43 10 rv n xs) (hb : base ≤ w.heap.size) (hn : n ≤ 1048577) (ha : a ≤ s.size) (hs : s.size ≤ 1048576) (hR : otoldS s.data.toList 1 word a no = (R, a', no')) :
    Calls Tryz.prog 109 #[.pointer (some ⟨r, 0, none⟩), .int .i64 1, .string wd] w fun e w' => e = .returned (.tuple #[]) ∧ OneRow w r g rv s base n xs R a' no' w' := by
  have hL : s.data.toList.length = s.size := by simp
  have hs2 : s.size ≤ 4611686018427387904 := Nat.le_trans hs (by decide)
  have hr := Blk.lt h.rd
  have hg := Blk.lt h.sc
  have hts : (wd ++ (⟨#[32]⟩ : ByteArray)).size ≤ 4611686018427387904 := by
    have : (⟨#[32]⟩ : ByteArray).size = 1 := rfl
    rw [ByteArray.size_append]; omega
  obtain ⟨b, n1, h1⟩ : ∃ b n1, wordS s.data.toList word a no = (b, n1) := ⟨_, _, rfl⟩
  obtain ⟨a2, n2, h2⟩ : ∃ a2 n2, nmS s.data.toList owName b n1 = (a2, n2) := ⟨_, _, rfl⟩
  obtain ⟨a3, n3, h3⟩ : ∃ a3 n3, wordS s.data.toList [32] a2 n2 = (a3, n3) := ⟨_, _, rfl⟩
  obtain ⟨V, a4, n4, h4⟩ : ∃ V a4 n4, otextS s.data.toList 1 a3 n3 = (V, a4, n4) := ⟨_, _, _, rfl⟩
  obtain ⟨a5, n5, h5⟩ : ∃ a5 n5, wordS s.data.toList [10] a4 n4 = (a5, n5) := ⟨_, _, rfl⟩
  have hl1 := wordS_le s.data.toList word a no (by rw [hL]; exact ha)
  rw [h1, hL] at hl1
  have hl2 := nmS_le (l := s.data.toList) owName n1 (by rw [hL]; exact hl1.2)
  rw [h2, hL] at hl2
  have hl3 := wordS_le s.data.toList [32] a2 n2 (by rw [hL]; exact hl2.2)
  rw [h3, hL] at hl3
  have hl4 := otextS_le (l := s.data.toList) (kind := 1) n3 (by rw [hL]; exact hl3.2)
  rw [h4, hL] at hl4
  simp only at hl1 hl2 hl3 hl4
  unfold otoldS at hR
  simp only [h1, h2, h3, h4, h5] at hR
  have kA := fun W a no h => at_any g s a no W h
  have kB := fun W h => word_any g s (wd ++ (⟨#[32]⟩ : ByteArray)) a no b n1 W h ha hs2 hts (by rw [hwd]; exact h1)
  have kN := fun W h => name_oname r g rv s b n1 a2 n2 W h hl1.2 hs h2
  have kW := fun W h => word_any g s ⟨#[32]⟩ a2 n2 a3 n3 W h hl2.2 hs2 (by decide) h3
  have kF := fun W h => word_any g s ⟨#[10]⟩ a4 n4 a5 n5 W h hl4.2 hs2 (by decide) h5
  unfold otextS at h4
  rw [if_pos rfl] at h4
  obtain ⟨v1, v2⟩ : cutL s.data.toList a3 (someS s.data.toList smB a3 n3).1 = V ∧ someS s.data.toList smB a3 n3 = (a4, n4) := by
    injection h4 with e1 e2; exact ⟨e1, e2⟩
  have kI := fun W h => some_osmall g s a3 n3 a4 n4 W h hl3.2 hs2 v2
  rw [ext_cut] at kI
  rw [v2] at v1
  rw [← v1] at hR
  simp only at hR
  generalize mkS (cutL s.data.toList a3 a4) = V5 at kI hR
  generalize mkS (cutL s.data.toList b a2) = V1 at kN hR
  obtain ⟨rfl, rfl, rfl⟩ : (⟨1, V1, b, [], [], V5, a3, false, mkS [], 0⟩ : MRow) = R ∧ a5 = a' ∧ n5 = no' := by
    injection hR with e1 e2; injection e2 with e3 e4; exact ⟨e1, e3, e4⟩
  obtain ⟨i2, hi2, jz0, jz1, jz2⟩ := info_parts Tryz.infoRow
  have hur : Tryz.prog.underlying 37 = some (.slice 43) := by kernel_rfl
  have x0 := h.facts
  clear h1 h2 h3 h4 h5 hL hR hwd
  go_enter Tryz.func109, Tryz.ntmps109
  go_upto_region 12 with (first
    | (go_at_call 57; (with_reducible refine (kB _ h.sc).mono ?_); rintro e w1 ⟨rfl, h1, hA1⟩; have L1 := h.scan hA1 h1 (by simp); have x1 := L1.facts; have L2 : LX w (w1.alloc (.cells #[.int .i64 1, .string ⟨#[]⟩, .int .i64 (b : Int), .slice none 0 0, .slice none 0 0, .string ⟨#[]⟩, .int .i64 0, .bool false, .string ⟨#[]⟩, .int .i64 0] 43)) r g w1.heap.size rv s b n1 1 ⟨#[]⟩ b (.slice none 0 0) [] ⟨#[]⟩ 0 false ⟨#[]⟩ 0 := ⟨L1.alloc _, (by have := Blk.new w1 43 #[.int .i64 1, .string ⟨#[]⟩, .int .i64 (b : Int), .slice none 0 0, .slice none 0 0, .string ⟨#[]⟩, .int .i64 0, .bool false, .string ⟨#[]⟩, .int .i64 0]; simpa [Rw] using this), World.ownsRow_nil _ _ _ _, hr, hg, L1.aw.size⟩; have x2 := L2.facts)
    | (go_at_call 30; (with_reducible refine (kA _ b n1 L1.sc).mono ?_); rintro e w2 ⟨rfl, rfl⟩)
    | (go_at_call 148; (with_reducible refine (kN _ L2.lr.self).mono ?_); rintro e w3 ⟨rfl, h3⟩; have L3 := L2.call h3; have x3 := L3.facts; obtain ⟨_, _, f2, _⟩ := L3.rw_.facts; have L4 := L3.name V1; have x4 := L4.facts)
    | (go_at_call 57; (with_reducible refine (kW _ L4.lr.sc).mono ?_); rintro e w6 ⟨rfl, h6, hA6⟩; have L6 := L4.scan hA6 h6 (by simp); have x6 := L6.facts; obtain ⟨_, _, _, _, _, _, _, f6, _⟩ := L6.rw_.facts; have L7 := L6.pos_ a3; have x7 := L7.facts)
    | (go_at_call 30; (with_reducible refine (kA _ a3 n3 L6.lr.sc).mono ?_); rintro e w7 ⟨rfl, rfl⟩)
    | (go_at_call 152; (with_reducible refine (kI _ L7.lr.sc).mono ?_); rintro e w8 ⟨rfl, h8, hA8⟩; have L8 := L7.scan hA8 h8 (by simp); have x8 := L8.facts; obtain ⟨_, _, _, _, _, _, f8, _⟩ := L8.rw_.facts; have L9 := L8.text_ V5; have x9 := L9.facts)
    | (go_at_call 57; (with_reducible refine (kF _ L9.lr.sc).mono ?_); rintro e w15 ⟨rfl, h15, hA15⟩; have L15 := L9.scan hA15 h15 (by simp); have x15 := L15.facts))
  obtain ⟨X, hX⟩ : ∃ X : VRow, X = rowOf 1 V1 b none [] 0 V5 a3 false ⟨#[]⟩ 0 := ⟨_, rfl⟩
  have hown5 : w15.drew.ownsRow base 43 10 rv n xs := own_aw hown L15.lr.aw.drew (fun k hk e => by
    rw [List.mem_singleton] at e
    subst e; exact own_blk_ne hown h.sc (by decide) hk)
  obtain ⟨_, y2, y3⟩ := L15.lr.rd.facts
  obtain ⟨⟨q0, q1, q2, q3, q4, q5, q6, q7, q8, q9⟩, _⟩ := L15.rw_.facts
  obtain ⟨m0, m1, m2⟩ := Rd.facts (Blk.alloc L15.lr.rd (.cells #[.int .i64 1, .string V1, .int .i64 (b : Int), .slice none 0 0, .slice none 0 0, .string V5, .int .i64 (a3 : Int), .bool false, .string ⟨#[]⟩, .int .i64 0] 43))
  go_region_law (refine step_append_lies _ (by rfl) _ _ _ (by rfl) base 43 i2 _ 10 136 hur hi2 jz0 jz1 jz2 rfl (by omega) rv n xs (by rfl) (hown5.alloc _) ⟨w15.heap.size, 0, none⟩ 1 1 (rowCell X) (by rfl) (by rfl) (by rw [hX]; exact World.news_of_block (heap_alloc_new w15.drew _)) (by rw [hX]; simp [rowCell, rowOf, Value.oneCell']) (by omega) (by simp [maxLen]; omega) (by omega) (by have := L15.lr.aw.size; simp; omega) (w15.heap.size + 1) (by simp) ?_; intro gg capg w18 hown18 hgrow hat18 hlt18; rw [hX] at hown18; have hfin := line_end (tags := []) (rv' := .slice (some ⟨gg, 0, none⟩) (n + 1) capg) L15.drew hown5 hb (((Aw.refl _ _).alloc _).grown hgrow (fun k hk => .inl (by simpa using hk))) hown18; obtain ⟨g0, g1, g2⟩ := Rd.facts (Blk.grown (w := _) (Blk.alloc L15.drew.lr.rd _) hgrow (fun e => own_blk_ne hown5 L15.drew.lr.rd (by decide) e.symm)))
  all_goals
    go_wp2_with fail
    go_end0
    exact ⟨rfl, _, _, rfl, hfin⟩
set_option maxRecDepth 100000 in
set_option maxHeartbeats 6400000 in
theorem told2_any (wd : ByteArray) (word : List UInt8) (hwd : (wd ++ (⟨#[32]⟩ : ByteArray)).data.toList = word) (hws : wd.size ≤ 100) (r g : Nat) (rv : Value) (s : ByteArray) (a : Nat) (no : Bool) (R : MRow) (a' : Nat) (no' : Bool) (base n : Nat) (xs : List Value) (w : World) (h : LR w w r g rv s a no) (hown : w.ownsRow base 43 10 rv n xs) (hb : base ≤ w.heap.size) (hn : n ≤ 1048577) (ha : a ≤ s.size) (hs : s.size ≤ 1048576) (hR : otoldS s.data.toList 2 word a no = (R, a', no')) :
    Calls Tryz.prog 109 #[.pointer (some ⟨r, 0, none⟩), .int .i64 2, .string wd] w fun e w' => e = .returned (.tuple #[]) ∧ OneRow w r g rv s base n xs R a' no' w' := by
  have hL : s.data.toList.length = s.size := by simp
  have hs2 : s.size ≤ 4611686018427387904 := Nat.le_trans hs (by decide)
  have hr := Blk.lt h.rd
  have hg := Blk.lt h.sc
  have hts : (wd ++ (⟨#[32]⟩ : ByteArray)).size ≤ 4611686018427387904 := by
    have : (⟨#[32]⟩ : ByteArray).size = 1 := rfl
    rw [ByteArray.size_append]; omega
  obtain ⟨b, n1, h1⟩ : ∃ b n1, wordS s.data.toList word a no = (b, n1) := ⟨_, _, rfl⟩
  obtain ⟨a2, n2, h2⟩ : ∃ a2 n2, nmS s.data.toList owName b n1 = (a2, n2) := ⟨_, _, rfl⟩
  obtain ⟨a3, n3, h3⟩ : ∃ a3 n3, wordS s.data.toList [32] a2 n2 = (a3, n3) := ⟨_, _, rfl⟩
  obtain ⟨V, a4, n4, h4⟩ : ∃ V a4 n4, otextS s.data.toList 2 a3 n3 = (V, a4, n4) := ⟨_, _, _, rfl⟩
  obtain ⟨a5, n5, h5⟩ : ∃ a5 n5, wordS s.data.toList [10] a4 n4 = (a5, n5) := ⟨_, _, rfl⟩
  have hl1 := wordS_le s.data.toList word a no (by rw [hL]; exact ha)
  rw [h1, hL] at hl1
  have hl2 := nmS_le (l := s.data.toList) owName n1 (by rw [hL]; exact hl1.2)
  rw [h2, hL] at hl2
  have hl3 := wordS_le s.data.toList [32] a2 n2 (by rw [hL]; exact hl2.2)
  rw [h3, hL] at hl3
  have hl4 := otextS_le (l := s.data.toList) (kind := 2) n3 (by rw [hL]; exact hl3.2)
  rw [h4, hL] at hl4
  simp only at hl1 hl2 hl3 hl4
  unfold otoldS at hR
  simp only [h1, h2, h3, h4, h5] at hR
  have kA := fun W a no h => at_any g s a no W h
  have kB := fun W h => word_any g s (wd ++ (⟨#[32]⟩ : ByteArray)) a no b n1 W h ha hs2 hts (by rw [hwd]; exact h1)
  have kN := fun W h => name_oname r g rv s b n1 a2 n2 W h hl1.2 hs h2
  have kW := fun W h => word_any g s ⟨#[32]⟩ a2 n2 a3 n3 W h hl2.2 hs2 (by decide) h3
  have kF := fun W h => word_any g s ⟨#[10]⟩ a4 n4 a5 n5 W h hl4.2 hs2 (by decide) h5
  unfold otextS at h4
  rw [if_neg (by decide), if_pos rfl] at h4
  obtain ⟨v1, v2⟩ : cutL s.data.toList a3 (someS s.data.toList owName a3 n3).1 = V ∧ someS s.data.toList owName a3 n3 = (a4, n4) := by
    injection h4 with e1 e2; exact ⟨e1, e2⟩
  have kI := fun W h => some_oname g s a3 n3 a4 n4 W h hl3.2 hs2 v2
  rw [ext_cut] at kI
  rw [v2] at v1
  rw [← v1] at hR
  simp only at hR
  generalize mkS (cutL s.data.toList a3 a4) = V5 at kI hR
  generalize mkS (cutL s.data.toList b a2) = V1 at kN hR
  obtain ⟨rfl, rfl, rfl⟩ : (⟨2, V1, b, [], [], V5, a3, false, mkS [], 0⟩ : MRow) = R ∧ a5 = a' ∧ n5 = no' := by
    injection hR with e1 e2; injection e2 with e3 e4; exact ⟨e1, e3, e4⟩
  obtain ⟨i2, hi2, jz0, jz1, jz2⟩ := info_parts Tryz.infoRow
  have hur : Tryz.prog.underlying 37 = some (.slice 43) := by kernel_rfl
  have x0 := h.facts
  clear h1 h2 h3 h4 h5 hL hR hwd
  go_enter Tryz.func109, Tryz.ntmps109
  go_upto_region 12 with (first
    | (go_at_call 57; (with_reducible refine (kB _ h.sc).mono ?_); rintro e w1 ⟨rfl, h1, hA1⟩; have L1 := h.scan hA1 h1 (by simp); have x1 := L1.facts; have L2 : LX w (w1.alloc (.cells #[.int .i64 2, .string ⟨#[]⟩, .int .i64 (b : Int), .slice none 0 0, .slice none 0 0, .string ⟨#[]⟩, .int .i64 0, .bool false, .string ⟨#[]⟩, .int .i64 0] 43)) r g w1.heap.size rv s b n1 2 ⟨#[]⟩ b (.slice none 0 0) [] ⟨#[]⟩ 0 false ⟨#[]⟩ 0 := ⟨L1.alloc _, (by have := Blk.new w1 43 #[.int .i64 2, .string ⟨#[]⟩, .int .i64 (b : Int), .slice none 0 0, .slice none 0 0, .string ⟨#[]⟩, .int .i64 0, .bool false, .string ⟨#[]⟩, .int .i64 0]; simpa [Rw] using this), World.ownsRow_nil _ _ _ _, hr, hg, L1.aw.size⟩; have x2 := L2.facts)
    | (go_at_call 30; (with_reducible refine (kA _ b n1 L1.sc).mono ?_); rintro e w2 ⟨rfl, rfl⟩)
    | (go_at_call 148; (with_reducible refine (kN _ L2.lr.self).mono ?_); rintro e w3 ⟨rfl, h3⟩; have L3 := L2.call h3; have x3 := L3.facts; obtain ⟨_, _, f2, _⟩ := L3.rw_.facts; have L4 := L3.name V1; have x4 := L4.facts)
    | (go_at_call 57; (with_reducible refine (kW _ L4.lr.sc).mono ?_); rintro e w6 ⟨rfl, h6, hA6⟩; have L6 := L4.scan hA6 h6 (by simp); have x6 := L6.facts; obtain ⟨_, _, _, _, _, _, _, f6, _⟩ := L6.rw_.facts; have L7 := L6.pos_ a3; have x7 := L7.facts)
    | (go_at_call 30; (with_reducible refine (kA _ a3 n3 L6.lr.sc).mono ?_); rintro e w7 ⟨rfl, rfl⟩)
    | (go_at_call 152; (with_reducible refine (kI _ L7.lr.sc).mono ?_); rintro e w8 ⟨rfl, h8, hA8⟩; have L8 := L7.scan hA8 h8 (by simp); have x8 := L8.facts; obtain ⟨_, _, _, _, _, _, f8, _⟩ := L8.rw_.facts; have L9 := L8.text_ V5; have x9 := L9.facts)
    | (go_at_call 57; (with_reducible refine (kF _ L9.lr.sc).mono ?_); rintro e w15 ⟨rfl, h15, hA15⟩; have L15 := L9.scan hA15 h15 (by simp); have x15 := L15.facts))
  obtain ⟨X, hX⟩ : ∃ X : VRow, X = rowOf 2 V1 b none [] 0 V5 a3 false ⟨#[]⟩ 0 := ⟨_, rfl⟩
  have hown5 : w15.drew.ownsRow base 43 10 rv n xs := own_aw hown L15.lr.aw.drew (fun k hk e => by
    rw [List.mem_singleton] at e
    subst e; exact own_blk_ne hown h.sc (by decide) hk)
  obtain ⟨_, y2, y3⟩ := L15.lr.rd.facts
  obtain ⟨⟨q0, q1, q2, q3, q4, q5, q6, q7, q8, q9⟩, _⟩ := L15.rw_.facts
  obtain ⟨m0, m1, m2⟩ := Rd.facts (Blk.alloc L15.lr.rd (.cells #[.int .i64 2, .string V1, .int .i64 (b : Int), .slice none 0 0, .slice none 0 0, .string V5, .int .i64 (a3 : Int), .bool false, .string ⟨#[]⟩, .int .i64 0] 43))
  go_region_law (refine step_append_lies _ (by rfl) _ _ _ (by rfl) base 43 i2 _ 10 136 hur hi2 jz0 jz1 jz2 rfl (by omega) rv n xs (by rfl) (hown5.alloc _) ⟨w15.heap.size, 0, none⟩ 1 1 (rowCell X) (by rfl) (by rfl) (by rw [hX]; exact World.news_of_block (heap_alloc_new w15.drew _)) (by rw [hX]; simp [rowCell, rowOf, Value.oneCell']) (by omega) (by simp [maxLen]; omega) (by omega) (by have := L15.lr.aw.size; simp; omega) (w15.heap.size + 1) (by simp) ?_; intro gg capg w18 hown18 hgrow hat18 hlt18; rw [hX] at hown18; have hfin := line_end (tags := []) (rv' := .slice (some ⟨gg, 0, none⟩) (n + 1) capg) L15.drew hown5 hb (((Aw.refl _ _).alloc _).grown hgrow (fun k hk => .inl (by simpa using hk))) hown18; obtain ⟨g0, g1, g2⟩ := Rd.facts (Blk.grown (w := _) (Blk.alloc L15.drew.lr.rd _) hgrow (fun e => own_blk_ne hown5 L15.drew.lr.rd (by decide) e.symm)))
  all_goals
    go_wp2_with fail
    go_end0
    exact ⟨rfl, _, _, rfl, hfin⟩
set_option maxRecDepth 100000 in
set_option maxHeartbeats 6400000 in
theorem told3_any (wd : ByteArray) (word : List UInt8) (hwd : (wd ++ (⟨#[32]⟩ : ByteArray)).data.toList = word) (hws : wd.size ≤ 100) (r g : Nat) (rv : Value) (s : ByteArray) (a : Nat) (no : Bool) (R : MRow) (a' : Nat) (no' : Bool) (base n : Nat) (xs : List Value) (w : World) (h : LR w w r g rv s a no) (hown : w.ownsRow base 43 10 rv n xs) (hb : base ≤ w.heap.size) (hn : n ≤ 1048577) (ha : a ≤ s.size) (hs : s.size ≤ 1048576) (hR : otoldS s.data.toList 3 word a no = (R, a', no')) :
    Calls Tryz.prog 109 #[.pointer (some ⟨r, 0, none⟩), .int .i64 3, .string wd] w fun e w' => e = .returned (.tuple #[]) ∧ OneRow w r g rv s base n xs R a' no' w' := by
  have hL : s.data.toList.length = s.size := by simp
  have hs2 : s.size ≤ 4611686018427387904 := Nat.le_trans hs (by decide)
  have hr := Blk.lt h.rd
  have hg := Blk.lt h.sc
  have hts : (wd ++ (⟨#[32]⟩ : ByteArray)).size ≤ 4611686018427387904 := by
    have : (⟨#[32]⟩ : ByteArray).size = 1 := rfl
    rw [ByteArray.size_append]; omega
  obtain ⟨b, n1, h1⟩ : ∃ b n1, wordS s.data.toList word a no = (b, n1) := ⟨_, _, rfl⟩
  obtain ⟨a2, n2, h2⟩ : ∃ a2 n2, nmS s.data.toList owName b n1 = (a2, n2) := ⟨_, _, rfl⟩
  obtain ⟨a3, n3, h3⟩ : ∃ a3 n3, wordS s.data.toList [32] a2 n2 = (a3, n3) := ⟨_, _, rfl⟩
  obtain ⟨V, a4, n4, h4⟩ : ∃ V a4 n4, otextS s.data.toList 3 a3 n3 = (V, a4, n4) := ⟨_, _, _, rfl⟩
  obtain ⟨a5, n5, h5⟩ : ∃ a5 n5, wordS s.data.toList [10] a4 n4 = (a5, n5) := ⟨_, _, rfl⟩
  have hl1 := wordS_le s.data.toList word a no (by rw [hL]; exact ha)
  rw [h1, hL] at hl1
  have hl2 := nmS_le (l := s.data.toList) owName n1 (by rw [hL]; exact hl1.2)
  rw [h2, hL] at hl2
  have hl3 := wordS_le s.data.toList [32] a2 n2 (by rw [hL]; exact hl2.2)
  rw [h3, hL] at hl3
  have hl4 := otextS_le (l := s.data.toList) (kind := 3) n3 (by rw [hL]; exact hl3.2)
  rw [h4, hL] at hl4
  simp only at hl1 hl2 hl3 hl4
  unfold otoldS at hR
  simp only [h1, h2, h3, h4, h5] at hR
  have kA := fun W a no h => at_any g s a no W h
  have kB := fun W h => word_any g s (wd ++ (⟨#[32]⟩ : ByteArray)) a no b n1 W h ha hs2 hts (by rw [hwd]; exact h1)
  have kN := fun W h => name_oname r g rv s b n1 a2 n2 W h hl1.2 hs h2
  have kW := fun W h => word_any g s ⟨#[32]⟩ a2 n2 a3 n3 W h hl2.2 hs2 (by decide) h3
  have kF := fun W h => word_any g s ⟨#[10]⟩ a4 n4 a5 n5 W h hl4.2 hs2 (by decide) h5
  unfold otextS at h4
  rw [if_neg (by decide), if_neg (by decide)] at h4
  obtain ⟨VV, h6⟩ : ∃ VV, ink s.data.toList 10 inH 110 a3 n3 = (VV, a4, n4) := by
    injection h4 with e1 e2
    exact ⟨_, by rw [← e2]⟩
  have hV : mkS V = if n4 then ⟨#[]⟩ else mkS VV := by
    injection h4 with e1 e2
    rw [← e1]; unfold inkV; rw [h6]; cases n4 <;> rfl
  have kI := fun W h => inked_any g s ⟨#[92, 110]⟩ 10 a3 n3 VV a4 n4 W h hl3.2 hs h6
  rw [← hV] at kI
  generalize mkS V = V5 at kI hR
  generalize mkS (cutL s.data.toList b a2) = V1 at kN hR
  obtain ⟨rfl, rfl, rfl⟩ : (⟨3, V1, b, [], [], V5, a3, false, mkS [], 0⟩ : MRow) = R ∧ a5 = a' ∧ n5 = no' := by
    injection hR with e1 e2; injection e2 with e3 e4; exact ⟨e1, e3, e4⟩
  obtain ⟨i2, hi2, jz0, jz1, jz2⟩ := info_parts Tryz.infoRow
  have hur : Tryz.prog.underlying 37 = some (.slice 43) := by kernel_rfl
  have x0 := h.facts
  clear h1 h2 h3 h4 h5 hL hR hwd
  go_enter Tryz.func109, Tryz.ntmps109
  go_upto_region 12 with (first
    | (go_at_call 57; (with_reducible refine (kB _ h.sc).mono ?_); rintro e w1 ⟨rfl, h1, hA1⟩; have L1 := h.scan hA1 h1 (by simp); have x1 := L1.facts; have L2 : LX w (w1.alloc (.cells #[.int .i64 3, .string ⟨#[]⟩, .int .i64 (b : Int), .slice none 0 0, .slice none 0 0, .string ⟨#[]⟩, .int .i64 0, .bool false, .string ⟨#[]⟩, .int .i64 0] 43)) r g w1.heap.size rv s b n1 3 ⟨#[]⟩ b (.slice none 0 0) [] ⟨#[]⟩ 0 false ⟨#[]⟩ 0 := ⟨L1.alloc _, (by have := Blk.new w1 43 #[.int .i64 3, .string ⟨#[]⟩, .int .i64 (b : Int), .slice none 0 0, .slice none 0 0, .string ⟨#[]⟩, .int .i64 0, .bool false, .string ⟨#[]⟩, .int .i64 0]; simpa [Rw] using this), World.ownsRow_nil _ _ _ _, hr, hg, L1.aw.size⟩; have x2 := L2.facts)
    | (go_at_call 30; (with_reducible refine (kA _ b n1 L1.sc).mono ?_); rintro e w2 ⟨rfl, rfl⟩)
    | (go_at_call 148; (with_reducible refine (kN _ L2.lr.self).mono ?_); rintro e w3 ⟨rfl, h3⟩; have L3 := L2.call h3; have x3 := L3.facts; obtain ⟨_, _, f2, _⟩ := L3.rw_.facts; have L4 := L3.name V1; have x4 := L4.facts)
    | (go_at_call 57; (with_reducible refine (kW _ L4.lr.sc).mono ?_); rintro e w6 ⟨rfl, h6, hA6⟩; have L6 := L4.scan hA6 h6 (by simp); have x6 := L6.facts; obtain ⟨_, _, _, _, _, _, _, f6, _⟩ := L6.rw_.facts; have L7 := L6.pos_ a3; have x7 := L7.facts)
    | (go_at_call 30; (with_reducible refine (kA _ a3 n3 L6.lr.sc).mono ?_); rintro e w7 ⟨rfl, rfl⟩)
    | (go_at_call 154; (with_reducible refine (kI _ L7.lr.sc).mono ?_); rintro e w8 ⟨rfl, h8, hA8⟩; have L8 := L7.scan hA8 h8 (by simp); have x8 := L8.facts; obtain ⟨_, _, _, _, _, _, f8, _⟩ := L8.rw_.facts; have L9 := L8.text_ V5; have x9 := L9.facts)
    | (go_at_call 57; (with_reducible refine (kF _ L9.lr.sc).mono ?_); rintro e w15 ⟨rfl, h15, hA15⟩; have L15 := L9.scan hA15 h15 (by simp); have x15 := L15.facts))
  obtain ⟨X, hX⟩ : ∃ X : VRow, X = rowOf 3 V1 b none [] 0 V5 a3 false ⟨#[]⟩ 0 := ⟨_, rfl⟩
  have hown5 : w15.drew.ownsRow base 43 10 rv n xs := own_aw hown L15.lr.aw.drew (fun k hk e => by
    rw [List.mem_singleton] at e
    subst e; exact own_blk_ne hown h.sc (by decide) hk)
  obtain ⟨_, y2, y3⟩ := L15.lr.rd.facts
  obtain ⟨⟨q0, q1, q2, q3, q4, q5, q6, q7, q8, q9⟩, _⟩ := L15.rw_.facts
  obtain ⟨m0, m1, m2⟩ := Rd.facts (Blk.alloc L15.lr.rd (.cells #[.int .i64 3, .string V1, .int .i64 (b : Int), .slice none 0 0, .slice none 0 0, .string V5, .int .i64 (a3 : Int), .bool false, .string ⟨#[]⟩, .int .i64 0] 43))
  go_region_law (refine step_append_lies _ (by rfl) _ _ _ (by rfl) base 43 i2 _ 10 136 hur hi2 jz0 jz1 jz2 rfl (by omega) rv n xs (by rfl) (hown5.alloc _) ⟨w15.heap.size, 0, none⟩ 1 1 (rowCell X) (by rfl) (by rfl) (by rw [hX]; exact World.news_of_block (heap_alloc_new w15.drew _)) (by rw [hX]; simp [rowCell, rowOf, Value.oneCell']) (by omega) (by simp [maxLen]; omega) (by omega) (by have := L15.lr.aw.size; simp; omega) (w15.heap.size + 1) (by simp) ?_; intro gg capg w18 hown18 hgrow hat18 hlt18; rw [hX] at hown18; have hfin := line_end (tags := []) (rv' := .slice (some ⟨gg, 0, none⟩) (n + 1) capg) L15.drew hown5 hb (((Aw.refl _ _).alloc _).grown hgrow (fun k hk => .inl (by simpa using hk))) hown18; obtain ⟨g0, g1, g2⟩ := Rd.facts (Blk.grown (w := _) (Blk.alloc L15.drew.lr.rd _) hgrow (fun e => own_blk_ne hown5 L15.drew.lr.rd (by decide) e.symm)))
  all_goals
    go_wp2_with fail
    go_end0
    exact ⟨rfl, _, _, rfl, hfin⟩
end
section
theorem OneRow.rebase {w w1 w' : World} {r g : Nat} {rv : Value} {s : ByteArray} {a : Nat} {no : Bool} {base n : Nat} {xs : List Value} {R : MRow} {a' : Nat} {no' : Bool} (h : LR w w1 r g rv s a no) (k : OneRow w1 r g rv s base n xs R a' no' w') : OneRow w r g rv s base n xs R a' no' w' := by
  obtain ⟨rv', x, h1, h2, h3, h4, h5, h6⟩ := k
  exact ⟨rv', x, h1, h2, h3, h4, h5, (h.aw.mono (by simp)).trans h6⟩
/-- What a line's walk shows: one more row, or none. -/
def OLine (w : World) (r g : Nat) (rv : Value) (s : ByteArray) (base n : Nat) (xs : List Value) (a' : Nat) (no' : Bool) (w' : World) : Option MRow → Prop
  | some R => OneRow w r g rv s base n xs R a' no' w'
  | none => LR w w' r g rv s a' no'
set_option maxRecDepth 100000 in
set_option maxHeartbeats 6400000 in
theorem oline_any (r g : Nat) (rv : Value) (s : ByteArray) (a : Nat) (q : Option MRow) (last : Bool) (a' : Nat) (no' : Bool) (base n : Nat) (xs : List Value) (w : World) (h : LR w w r g rv s a false) (hown : w.ownsRow base 43 10 rv n xs) (hb : base ≤ w.heap.size) (hn : n ≤ 1048577) (ha : a ≤ s.size) (hs : s.size ≤ 1048576) (hR : olineS s.data.toList a = ((q, last), a', no')) :
    Calls Tryz.prog 55 #[.pointer (some ⟨r, 0, none⟩)] w fun e w' => e = .returned (.bool last) ∧ OLine w r g rv s base n xs a' no' w' q := by
  have hL : s.data.toList.length = s.size := by simp
  have hs2 : s.size ≤ 4611686018427387904 := Nat.le_trans hs (by decide)
  have hg := h.sc
  have x0 := h.facts
  have kI := fun W h => is_any g s a false 35 W h ha hs2
  unfold olineS at hR
  cases hq : isB s.data.toList a false 35
  case false =>
    rw [if_neg (by rw [hq]; decide)] at hR
    rw [hq] at kI
    obtain ⟨R, p, np, hM⟩ : ∃ R p np, sampS s.data.toList a false = (R, p, np) := ⟨_, _, _, rfl⟩
    simp only [hM] at hR
    obtain ⟨rfl, rfl, rfl, rfl⟩ : some R = q ∧ false = last ∧ p = a' ∧ np = no' := by
      injection hR with e1 e2; injection e1 with e3 e4; injection e2 with e5 e6; exact ⟨e3, e4, e5, e6⟩
    have kS := fun W h ho hb => samp_any r g rv s a false R p np base n xs W h ho hb hn ha hs hM
    clear hR hM hq hL
    go_enter Tryz.func55, Tryz.ntmps55
    go_wp2_with (first
      | (go_at_call 107; (with_reducible refine (kI _ h.sc).mono ?_); rintro e w1 ⟨rfl, h1, hA1⟩; have L1 := h.scan hA1 h1 (by simp); have hown1 := own_aw hown hA1 (by simp))
      | (go_at_call 108; (with_reducible refine (kS _ L1.self hown1 (Nat.le_trans hb L1.aw.size)).mono ?_); rintro e w2 ⟨rfl, h2⟩))
    go_ret
    exact ⟨rfl, OneRow.rebase L1 h2⟩
  case true =>
    rw [if_pos hq] at hR
    rw [hq] at kI
    obtain ⟨b, n1, hw⟩ : ∃ b n1, wordS s.data.toList wHash a false = (b, n1) := ⟨_, _, rfl⟩
    simp only [hw] at hR
    have hl1 := wordS_le s.data.toList wHash a false (by rw [hL]; exact ha)
    rw [hw, hL] at hl1
    simp only at hl1
    have kW := fun W h => word_any g s ⟨#[35, 32]⟩ a false b n1 W h ha hs2 (by decide) hw
    have kT := fun W h => is_any g s b n1 84 W h hl1.2 hs2
    have kU := fun W h => is_any g s b n1 85 W h hl1.2 hs2
    have kH := fun W h => is_any g s b n1 72 W h hl1.2 hs2
    have own2 : ∀ W1 S, Aw S w W1 → (∀ i, i ∈ S → i = g) → W1.ownsRow base 43 10 rv n xs := fun W1 S k hS => own_aw hown k (fun i hi e => by have := hS _ e; subst this; exact own_blk_ne hown hg (by decide) hi)
    clear hw hq hL
    cases hT : isB s.data.toList b n1 84
    case true =>
      rw [if_pos hT] at hR
      rw [hT] at kT
      obtain ⟨R, p, np, hM⟩ : ∃ R p np, otoldS s.data.toList 1 wType b n1 = (R, p, np) := ⟨_, _, _, rfl⟩
      simp only [hM] at hR
      obtain ⟨rfl, rfl, rfl, rfl⟩ : some R = q ∧ false = last ∧ p = a' ∧ np = no' := by
        injection hR with e1 e2; injection e1 with e3 e4; injection e2 with e5 e6; exact ⟨e3, e4, e5, e6⟩
      have kS := fun W h ho hb => told1_any ⟨#[84, 89, 80, 69]⟩ wType (by rfl) (by decide) r g rv s b n1 R p np base n xs W h ho hb hn hl1.2 hs hM
      clear hR hM
      go_enter Tryz.func55, Tryz.ntmps55
      go_wp2_with (first
        | (go_at_call 107; (with_reducible refine (kI _ h.sc).mono ?_); rintro e w1 ⟨rfl, h1, hA1⟩; have L1 := h.scan hA1 h1 (by simp); have x1 := L1.facts)
        | (go_at_call 57; (with_reducible refine (kW _ L1.sc).mono ?_); rintro e w2 ⟨rfl, h2, hA2⟩; have L2 := L1.scan hA2 h2 (by simp); have x2 := L2.facts)
        | (go_at_call 107; (with_reducible refine (kT _ L2.sc).mono ?_); rintro e w3 ⟨rfl, h3, hA3⟩; have L3 := L2.scan hA3 h3 (by simp); have x3 := L3.facts)
          | (go_at_call 109; (with_reducible refine (kS _ L3.self (own2 _ _ L3.aw (by simp)) (Nat.le_trans hb L3.aw.size)).mono ?_); rintro e w9 ⟨rfl, h9⟩))
      go_ret
      exact ⟨rfl, OneRow.rebase L3 h9⟩
    case false =>
      rw [if_neg (by rw [hT]; decide)] at hR
      rw [hT] at kT
      cases hU : isB s.data.toList b n1 85
      case true =>
        rw [if_pos hU] at hR
        rw [hU] at kU
        obtain ⟨R, p, np, hM⟩ : ∃ R p np, otoldS s.data.toList 2 wUnit b n1 = (R, p, np) := ⟨_, _, _, rfl⟩
        simp only [hM] at hR
        obtain ⟨rfl, rfl, rfl, rfl⟩ : some R = q ∧ false = last ∧ p = a' ∧ np = no' := by
          injection hR with e1 e2; injection e1 with e3 e4; injection e2 with e5 e6; exact ⟨e3, e4, e5, e6⟩
        have kS := fun W h ho hb => told2_any ⟨#[85, 78, 73, 84]⟩ wUnit (by rfl) (by decide) r g rv s b n1 R p np base n xs W h ho hb hn hl1.2 hs hM
        clear hR hM
        go_enter Tryz.func55, Tryz.ntmps55
        go_wp2_with (first
          | (go_at_call 107; (with_reducible refine (kI _ h.sc).mono ?_); rintro e w1 ⟨rfl, h1, hA1⟩; have L1 := h.scan hA1 h1 (by simp); have x1 := L1.facts)
          | (go_at_call 57; (with_reducible refine (kW _ L1.sc).mono ?_); rintro e w2 ⟨rfl, h2, hA2⟩; have L2 := L1.scan hA2 h2 (by simp); have x2 := L2.facts)
          | (go_at_call 107; (with_reducible refine (kT _ L2.sc).mono ?_); rintro e w3 ⟨rfl, h3, hA3⟩; have L3 := L2.scan hA3 h3 (by simp); have x3 := L3.facts)
          | (go_at_call 107; (with_reducible refine (kU _ L3.sc).mono ?_); rintro e w4 ⟨rfl, h4, hA4⟩; have L4 := L3.scan hA4 h4 (by simp); have x4 := L4.facts)
            | (go_at_call 109; (with_reducible refine (kS _ L4.self (own2 _ _ L4.aw (by simp)) (Nat.le_trans hb L4.aw.size)).mono ?_); rintro e w9 ⟨rfl, h9⟩))
        go_ret
        exact ⟨rfl, OneRow.rebase L4 h9⟩
      case false =>
        rw [if_neg (by rw [hU]; decide)] at hR
        rw [hU] at kU
        cases hH : isB s.data.toList b n1 72
        case true =>
          rw [if_pos hH] at hR
          rw [hH] at kH
          obtain ⟨R, p, np, hM⟩ : ∃ R p np, otoldS s.data.toList 3 wHelp b n1 = (R, p, np) := ⟨_, _, _, rfl⟩
          simp only [hM] at hR
          obtain ⟨rfl, rfl, rfl, rfl⟩ : some R = q ∧ false = last ∧ p = a' ∧ np = no' := by
            injection hR with e1 e2; injection e1 with e3 e4; injection e2 with e5 e6; exact ⟨e3, e4, e5, e6⟩
          have kS := fun W h ho hb => told3_any ⟨#[72, 69, 76, 80]⟩ wHelp (by rfl) (by decide) r g rv s b n1 R p np base n xs W h ho hb hn hl1.2 hs hM
          clear hR hM
          go_enter Tryz.func55, Tryz.ntmps55
          go_wp2_with (first
            | (go_at_call 107; (with_reducible refine (kI _ h.sc).mono ?_); rintro e w1 ⟨rfl, h1, hA1⟩; have L1 := h.scan hA1 h1 (by simp); have x1 := L1.facts)
            | (go_at_call 57; (with_reducible refine (kW _ L1.sc).mono ?_); rintro e w2 ⟨rfl, h2, hA2⟩; have L2 := L1.scan hA2 h2 (by simp); have x2 := L2.facts)
            | (go_at_call 107; (with_reducible refine (kT _ L2.sc).mono ?_); rintro e w3 ⟨rfl, h3, hA3⟩; have L3 := L2.scan hA3 h3 (by simp); have x3 := L3.facts)
            | (go_at_call 107; (with_reducible refine (kU _ L3.sc).mono ?_); rintro e w4 ⟨rfl, h4, hA4⟩; have L4 := L3.scan hA4 h4 (by simp); have x4 := L4.facts)
            | (go_at_call 107; (with_reducible refine (kH _ L4.sc).mono ?_); rintro e w5 ⟨rfl, h5, hA5⟩; have L5 := L4.scan hA5 h5 (by simp); have x5 := L5.facts)
              | (go_at_call 109; (with_reducible refine (kS _ L5.self (own2 _ _ L5.aw (by simp)) (Nat.le_trans hb L5.aw.size)).mono ?_); rintro e w9 ⟨rfl, h9⟩))
          go_ret
          exact ⟨rfl, OneRow.rebase L5 h9⟩
        case false =>
          rw [if_neg (by rw [hH]; decide)] at hR
          rw [hH] at kH
          obtain ⟨p, np, hM⟩ : ∃ p np, wordS s.data.toList wEOF b n1 = (p, np) := ⟨_, _, rfl⟩
          simp only [hM] at hR
          obtain ⟨rfl, rfl, rfl, rfl⟩ : none = q ∧ true = last ∧ p = a' ∧ np = no' := by
            injection hR with e1 e2; injection e1 with e3 e4; injection e2 with e5 e6; exact ⟨e3, e4, e5, e6⟩
          have kF := fun W h => word_any g s ⟨#[69, 79, 70]⟩ b n1 p np W h hl1.2 hs2 (by decide) hM
          clear hR hM
          go_enter Tryz.func55, Tryz.ntmps55
          go_wp2_with (first
            | (go_at_call 107; (with_reducible refine (kI _ h.sc).mono ?_); rintro e w1 ⟨rfl, h1, hA1⟩; have L1 := h.scan hA1 h1 (by simp); have x1 := L1.facts)
            | (go_at_call 57; (with_reducible refine (kW _ L1.sc).mono ?_); rintro e w2 ⟨rfl, h2, hA2⟩; have L2 := L1.scan hA2 h2 (by simp); have x2 := L2.facts)
            | (go_at_call 107; (with_reducible refine (kT _ L2.sc).mono ?_); rintro e w3 ⟨rfl, h3, hA3⟩; have L3 := L2.scan hA3 h3 (by simp); have x3 := L3.facts)
            | (go_at_call 107; (with_reducible refine (kU _ L3.sc).mono ?_); rintro e w4 ⟨rfl, h4, hA4⟩; have L4 := L3.scan hA4 h4 (by simp); have x4 := L4.facts)
            | (go_at_call 107; (with_reducible refine (kH _ L4.sc).mono ?_); rintro e w5 ⟨rfl, h5, hA5⟩; have L5 := L4.scan hA5 h5 (by simp); have x5 := L5.facts)
            | (go_at_call 57; (with_reducible refine (kF _ L5.sc).mono ?_); rintro e w9 ⟨rfl, h9, hA9⟩; have L9 := L5.scan hA9 h9 (by simp)))
          go_ret
          exact ⟨rfl, L9⟩
end
section
theorem oend_no (l : List UInt8) (a : Nat) : oendS l a true = (a, true) := by simp [oendS]
theorem oend_at (l : List UInt8) (a : Nat) (h : (a == l.length) = true) : oendS l a false = (a, false) := by simp [oendS, h]
theorem oend_word (l : List UInt8) (a : Nat) {p : Nat} {n : Bool} (h : (a == l.length) = false) (hW : wordS l [10] a false = (p, n)) : oendS l a false = (p, if p == l.length then n else true) := by
  simp [oendS, h, hW]
theorem wordS_one {l : List UInt8} {c : UInt8} {a : Nat} {no : Bool} (h : (wordS l [c] a no).2 = false) : (wordS l [c] a no).1 = a + 1 := by
  cases no
  · rw [word_step] at h ⊢
    unfold takeA at h ⊢
    cases hq : isB l a false c.toNat
    · rw [hq] at h; simp [wordS] at h
    · simp [wordS]
  · simp [wordS] at h
theorem samp_lt {l : List UInt8} {a : Nat} (ha : a ≤ l.length) (h : (sampS l a false).2.2 = false) : a < (sampS l a false).2.1 := by
  unfold sampS at h ⊢
  simp only at h ⊢
  have h1 := nmS_le (l := l) owName false ha
  generalize nmS l owName a false = n at h h1 ⊢
  have h2 := otagsS_le (l := l) n.2 h1.2
  generalize otagsS l n.1 n.2 = t at h h2 ⊢
  have h3 := wordS_le l [32] t.2.1 t.2.2 h2.2
  generalize wordS l [32] t.2.1 t.2.2 = w at h h3 ⊢
  have h4 := decS_le l w.1 w.2 h3.2
  generalize decS l w.1 w.2 = d at h h4 ⊢
  split at h
  · rename_i hi
    have := (isB_lt hi).1
    have h5 := decS_le l (d.1 + 1) false (by omega)
    rw [if_pos hi]
    simp only at h ⊢
    rw [wordS_one h]; omega
  · rename_i hi
    rw [if_neg hi]
    simp only at h ⊢
    rw [wordS_one h]; omega
theorem told_lt {l : List UInt8} {kind a : Nat} {word : List UInt8} {no : Bool} (ha : a ≤ l.length) (h : (otoldS l kind word a no).2.2 = false) : a < (otoldS l kind word a no).2.1 := by
  unfold otoldS at h ⊢
  simp only at h ⊢
  have h1 := wordS_le l word a no ha
  generalize wordS l word a no = w at h h1 ⊢
  have h2 := nmS_le (l := l) owName w.2 h1.2
  generalize nmS l owName w.1 w.2 = n at h h2 ⊢
  have h3 := wordS_le l [32] n.1 n.2 h2.2
  generalize wordS l [32] n.1 n.2 = b at h h3 ⊢
  have h4 := otextS_le (l := l) (kind := kind) b.2 h3.2
  generalize otextS l kind b.1 b.2 = t at h h4 ⊢
  rw [wordS_one h]; omega
theorem oline_lt {l : List UInt8} {a : Nat} (ha : a ≤ l.length) (h0 : (olineS l a).1.2 = false) (h : (olineS l a).2.2 = false) : a < (olineS l a).2.1 := by
  unfold olineS at h0 h ⊢
  split at h0
  · rename_i hq
    rw [if_pos hq] at h ⊢
    have h1 := wordS_le l wHash a false ha
    simp only at h0 h ⊢
    generalize wordS l wHash a false = w at h0 h h1 ⊢
    split at h0
    · rename_i h2
      rw [if_pos h2] at h ⊢
      have := told_lt h1.2 h
      simp only; omega
    rename_i h2
    rw [if_neg h2] at h ⊢
    split at h0
    · rename_i h3
      rw [if_pos h3] at h ⊢
      have := told_lt h1.2 h
      simp only; omega
    rename_i h3
    rw [if_neg h3] at h ⊢
    split at h0
    · rename_i h4
      rw [if_pos h4] at h ⊢
      have := told_lt h1.2 h
      simp only; omega
    · cases h0
  · rename_i hq
    rw [if_neg hq] at h ⊢
    exact samp_lt ha h
/-- The loop over lines: how far, what was read. -/
def OReadR (l : List UInt8) (f a : Nat) (no : Bool) (acc : List MRow) (R : List MRow × Nat × Bool) : Prop :=
  (no = false ∧ l.length < f + a ∧ orowsGo l f a acc = R) ∨ (no = true ∧ R.2 = (a, true))
theorem RX.oline {w0 w w' : World} {r g : Nat} {rv : Value} {s : ByteArray} {a a' : Nat} {no no' : Bool} {acc : List VRow} {q : Option MRow} (h : RX w0 w r g rv s a no acc) (k : OLine w r g rv s w0.heap.size acc.length (acc.flatMap rowCell) a' no' w' q) : ∃ rv' acc', RX w0 w' r g rv' s a' no' acc' ∧ acc'.map VRow.row = acc.map VRow.row ++ q.toList ∧ acc'.length ≤ acc.length + 1 := by
  cases q with
  | none => exact ⟨rv, acc, h.scan k.aw k.sc (by simp), by simp, by omega⟩
  | some R =>
    obtain ⟨rv', x, hx, k1, k2, k3, k4, k5⟩ := k
    exact ⟨rv', acc ++ [x], h.line k1 k2 k3 k4 k5, by simp [hx], by simp⟩
set_option maxRecDepth 100000 in
set_option maxHeartbeats 6400000 in
theorem oread_any (s : ByteArray) (w : World) (hs : s.size ≤ 1048576) :
    Calls Tryz.prog 28 #[.string s] w fun e w' => ∃ r g rv no acc, e = .returned (.pointer (some ⟨r, 0, none⟩)) ∧ RX w w' r g rv s (openRows s.data.toList).2.1 no acc ∧ (openRows s.data.toList).2.2 = no ∧ (no = false → (openRows s.data.toList).1 = acc.map VRow.row) := by
  suffices hh : Calls Tryz.prog 28 #[.string s] w fun e w' => ∃ r rv a no acc, e = .returned (.pointer (some ⟨r, 0, none⟩)) ∧ RX w w' r w.heap.size rv s a no acc ∧ (openRows s.data.toList).2 = (a, no) ∧ (no = false → (openRows s.data.toList).1 = acc.map VRow.row) by
    refine hh.mono ?_
    rintro e w' ⟨r, rv, a, no, acc, h1, h2, h3, h4⟩
    exact ⟨r, _, rv, no, acc, h1, by rw [h3]; exact h2, by rw [h3], h4⟩
  have hs2 : s.size ≤ 4611686018427387904 := Nat.le_trans hs (by decide)
  have HL : Hid (s.data.toList.length = s.size) := Lib.hid (by simp)
  have H0 : Hid (OReadR s.data.toList (s.data.toList.length + 2) 0 false [] (orowsGo s.data.toList (s.data.toList.length + 2) 0 [])) := Lib.hid (.inl ⟨rfl, by omega, rfl⟩)
  unfold openRows
  simp only
  generalize orowsGo s.data.toList (s.data.toList.length + 2) 0 [] = R at H0 ⊢
  have kN := new_any s w
  go_enter Tryz.func28, Tryz.ntmps28
  go_wp2_with (go_at_call 54; refine kN.mono ?_; rintro e w1 ⟨rfl, h1, hb1, hlt1⟩)
  have hbz := hb1.size
  have RX0 : RX w (w1.alloc (.cells #[.pointer (some ⟨w.heap.size, 0, none⟩), .slice none 0 0] 89)) w1.heap.size w.heap.size (.slice none 0 0) s 0 false [] :=
    ⟨Blk.new w1 _ _, h1.alloc _, World.ownsRow_nil _ _ _ _, by simp, hb1.alloc (by omega) _, by omega, by omega, Nat.le_refl _⟩
  generalize w1.alloc (.cells #[.pointer (some ⟨w.heap.size, 0, none⟩), .slice none 0 0] 89) = wi at RX0 ⊢
  generalize hg : w.heap.size = g at RX0 ⊢
  generalize w1.heap.size = r at RX0 ⊢
  clear h1 hb1 hlt1 kN hbz
  go_loopw [8] (fun _ wr => ∃ (a f : Nat) (no : Bool) (acc : List VRow) (rv : Value), a ≤ s.size ∧ acc.length ≤ a + 1 ∧ (no = false → acc.length ≤ a) ∧ RX w wr r g rv s a no acc ∧ Hid (OReadR s.data.toList f a no (acc.map VRow.row) R)) (fun _ wr => mOf wr g s)
  case atStart => exact ⟨0, _, false, [], _, by omega, by simp, by simp, RX0, H0⟩
  case round =>
    clear RX0 H0
    obtain ⟨a, f, no, acc, rv, ha, hacc, hacc2, hX, HI⟩ := hrel
    have hm0 := hX.sc.mOf
    obtain ⟨x0, x1, x2⟩ := hX.rd.facts
    cases no
    case true =>
      have hR : R.2 = (a, true) := by
        rcases HI.out with ⟨h1, _⟩ | ⟨_, h2⟩
        · cases h1
        · exact h2
      clear HI hacc2
      have kS2 := fun W h => stopped_any g s a true W h
      have kE := fun W h => end_any g s a true W h
      have kSt := fun W h => stop_any g s a true W h
      have hend : oendS s.data.toList R.2.1 R.2.2 = (a, true) := by rw [hR]; exact oend_no _ _
      cases he : (a == s.size)
      all_goals
        rw [he] at kE
        go_wp2_with (first
          | (go_at_call 29; (with_reducible refine (kS2 _ hX.sc).mono ?_); rintro e w10 ⟨rfl, rfl⟩)
          | (go_at_call 56; (with_reducible refine (kE _ hX.sc).mono ?_); rintro e w11 ⟨rfl, h11, hA11⟩; have L11 := hX.scan hA11 h11 (by simp); have x11 := L11.rd.facts.1)
          | (go_at_call 58; (with_reducible refine (kSt _ L11.sc).mono ?_); rintro e w15 ⟨rfl, h15, hA15⟩; have L15 := L11.scan hA15 h15 (by simp)))
        go_ret
        subst hg
        first
        | exact ⟨_, _, _, _, _, rfl, L15, hend, by simp⟩
        | exact ⟨_, _, _, _, _, rfl, L11, hend, by simp⟩
    case false =>
      have hacc3 : acc.length ≤ a := hacc2 rfl
      clear hacc2
      obtain ⟨hf, hI⟩ : s.data.toList.length < f + a ∧ orowsGo s.data.toList f a (acc.map VRow.row) = R := by
        rcases HI.out with ⟨_, h2, h3⟩ | ⟨h1, _⟩
        · exact ⟨h2, h3⟩
        · cases h1
      rw [HL.out] at hf
      obtain ⟨f, rfl⟩ : ∃ f', f = f' + 1 := ⟨f - 1, by omega⟩
      clear HI
      unfold orowsGo at hI
      have kS := fun W h => stopped_any g s a false W h
      obtain ⟨q, last, p, np, hM⟩ : ∃ q last p np, olineS s.data.toList a = ((q, last), p, np) := ⟨_, _, _, _, rfl⟩
      have hle := olineS_le (l := s.data.toList) (a := a) (by rw [HL.out]; omega)
      have hlt2 := oline_lt (l := s.data.toList) (a := a) (by rw [HL.out]; omega)
      rw [hM] at hI hle hlt2
      rw [HL.out] at hle
      simp only at hI hle hlt2
      have kL := fun W rv hl ho hb => oline_any r g rv s a q last p np w.heap.size acc.length (acc.flatMap rowCell) W hl ho hb (by omega) ha hs hM
      clear hM
      cases last
      case true =>
        rw [if_pos rfl] at hI
        have hR : R.2 = (p, np) := by rw [← hI]
        have hR1' : R.1 = acc.map VRow.row ++ q.toList := by rw [← hI]
        clear hI hlt2
        cases np
        case true =>
          have kS2 := fun W h => stopped_any g s p true W h
          have kE := fun W h => end_any g s p true W h
          have kSt := fun W h => stop_any g s p true W h
          have hend : oendS s.data.toList R.2.1 R.2.2 = (p, true) := by rw [hR]; exact oend_no _ _
          cases he : (p == s.size)
          all_goals
            rw [he] at kE
            go_wp2_with (first
              | (go_at_call 29; (with_reducible refine (kS _ hX.sc).mono ?_); rintro e w2 ⟨rfl, rfl⟩)
              | (go_at_call 55; (with_reducible refine (kL _ _ hX.lr hX.own hX.bl.size).mono ?_); rintro e w3 ⟨rfl, h3⟩; obtain ⟨rv3, acc3, L9, hm3, hc3⟩ := hX.oline h3; have x9 := L9.rd.facts.1)
              | (go_at_call 29; (with_reducible refine (kS2 _ L9.sc).mono ?_); rintro e w10 ⟨rfl, rfl⟩)
              | (go_at_call 56; (with_reducible refine (kE _ L9.sc).mono ?_); rintro e w11 ⟨rfl, h11, hA11⟩; have L11 := L9.scan hA11 h11 (by simp); have x11 := L11.rd.facts.1)
              | (go_at_call 58; (with_reducible refine (kSt _ L11.sc).mono ?_); rintro e w15 ⟨rfl, h15, hA15⟩; have L15 := L11.scan hA15 h15 (by simp)))
            go_ret
            subst hg
            first
            | exact ⟨_, _, _, _, _, rfl, L15, hend, by simp⟩
            | exact ⟨_, _, _, _, _, rfl, L11, hend, by simp⟩
        case false =>
          have kS2 := fun W h => stopped_any g s p false W h
          have kE := fun W h => end_any g s p false W h
          cases he : (p == s.size)
          case true =>
            rw [he] at kE
            have hend : oendS s.data.toList R.2.1 R.2.2 = (p, false) := by rw [hR]; exact oend_at _ _ (by rw [HL.out]; exact he)
            go_wp2_with (first
              | (go_at_call 29; (with_reducible refine (kS _ hX.sc).mono ?_); rintro e w2 ⟨rfl, rfl⟩)
              | (go_at_call 55; (with_reducible refine (kL _ _ hX.lr hX.own hX.bl.size).mono ?_); rintro e w3 ⟨rfl, h3⟩; obtain ⟨rv3, acc3, L9, hm3, hc3⟩ := hX.oline h3; have x9 := L9.rd.facts.1)
              | (go_at_call 29; (with_reducible refine (kS2 _ L9.sc).mono ?_); rintro e w10 ⟨rfl, rfl⟩)
              | (go_at_call 56; (with_reducible refine (kE _ L9.sc).mono ?_); rintro e w11 ⟨rfl, h11, hA11⟩; have L11 := L9.scan hA11 h11 (by simp); have x11 := L11.rd.facts.1)
              | (go_at_call 56; (with_reducible refine (kE _ L11.sc).mono ?_); rintro e w12 ⟨rfl, h12, hA12⟩; have L12 := L11.scan hA12 h12 (by simp); have x12 := L12.rd.facts.1))
            go_ret
            subst hg
            exact ⟨_, _, _, _, _, rfl, L12, hend, fun _ => hR1'.trans hm3.symm⟩
          case false =>
            rw [he] at kE
            obtain ⟨p2, n2, hW⟩ : ∃ p2 n2, wordS s.data.toList [10] p false = (p2, n2) := ⟨_, _, rfl⟩
            have kW := fun W h => word_any g s ⟨#[10]⟩ p false p2 n2 W h (by omega) hs2 (by decide) hW
            have kE2 := fun W h => end_any g s p2 n2 W h
            have kSt := fun W h => stop_any g s p2 n2 W h
            have hend : oendS s.data.toList R.2.1 R.2.2 = (p2, if p2 == s.size then n2 else true) := by
              rw [hR, ← HL.out]; exact oend_word _ _ (by rw [HL.out]; exact he) hW
            clear hW
            cases he2 : (p2 == s.size)
            all_goals
              rw [he2] at kE2 hend
              go_wp2_with (first
                | (go_at_call 29; (with_reducible refine (kS _ hX.sc).mono ?_); rintro e w2 ⟨rfl, rfl⟩)
                | (go_at_call 55; (with_reducible refine (kL _ _ hX.lr hX.own hX.bl.size).mono ?_); rintro e w3 ⟨rfl, h3⟩; obtain ⟨rv3, acc3, L9, hm3, hc3⟩ := hX.oline h3; have x9 := L9.rd.facts.1)
                | (go_at_call 29; (with_reducible refine (kS2 _ L9.sc).mono ?_); rintro e w10 ⟨rfl, rfl⟩)
                | (go_at_call 56; (with_reducible refine (kE _ L9.sc).mono ?_); rintro e w11 ⟨rfl, h11, hA11⟩; have L11 := L9.scan hA11 h11 (by simp); have x11 := L11.rd.facts.1)
                | (go_at_call 57; (with_reducible refine (kW _ L11.sc).mono ?_); rintro e w13 ⟨rfl, h13, hA13⟩; have L13 := L11.scan hA13 h13 (by simp); have x13 := L13.rd.facts.1)
                | (go_at_call 56; (with_reducible refine (kE2 _ L13.sc).mono ?_); rintro e w14 ⟨rfl, h14, hA14⟩; have L14 := L13.scan hA14 h14 (by simp); have x14 := L14.rd.facts.1)
                | (go_at_call 58; (with_reducible refine (kSt _ L14.sc).mono ?_); rintro e w15 ⟨rfl, h15, hA15⟩; have L15 := L14.scan hA15 h15 (by simp)))
              go_ret
              subst hg
              first
              | exact ⟨_, _, _, _, _, rfl, L15, hend, by simp⟩
              | exact ⟨_, _, _, _, _, rfl, L14, hend, fun _ => hR1'.trans hm3.symm⟩
      case false =>
        rw [if_neg (by decide)] at hI
        have HI2 : ∀ acc' : List VRow, acc'.map VRow.row = acc.map VRow.row ++ q.toList → Hid (OReadR s.data.toList f p np (acc'.map VRow.row) R) := fun acc' hx => Lib.hid (by
          cases np
          · left
            refine ⟨rfl, by have := hlt2 rfl rfl; rw [HL.out]; omega, ?_⟩
            rw [if_neg (by decide)] at hI
            rw [hx]; exact hI
          · right
            refine ⟨rfl, ?_⟩
            rw [if_pos rfl] at hI
            rw [← hI])
        have hlt3 : np = false → a < p := fun h => hlt2 rfl h
        clear hI hlt2
        go_wp2_with (first
          | (go_at_call 29; (with_reducible refine (kS _ hX.sc).mono ?_); rintro e w2 ⟨rfl, rfl⟩)
          | (go_at_call 55; (with_reducible refine (kL _ _ hX.lr hX.own hX.bl.size).mono ?_); rintro e w3 ⟨rfl, h3⟩; obtain ⟨rv3, acc3, L9, hm3, hc3⟩ := hX.oline h3; have x9 := L9.rd.facts.1))
        refine ⟨⟨p, f, np, acc3, rv3, hle.2, by omega, fun h => by have := hlt3 h; omega, L9, HI2 _ hm3⟩, ?_⟩
        rw [L9.sc.mOf, hm0]
        cases np
        · have := hlt3 rfl; simp; omega
        · simp; omega
set_option maxHeartbeats 1600000 in
theorem bad_any' (s : ByteArray) (w : World) (hs : s.size ≤ 1048576) :
    Calls Tryz.prog 11 #[.string s] w fun e w' => e = .returned (.int .i64 (openBad s.data.toList)) ∧ Below w.heap.size w w' := by
  have kR := oread_any s w hs
  unfold openBad
  generalize openRows s.data.toList = R at kR ⊢
  obtain ⟨R1, Ra, Rn⟩ := R
  go_enter Tryz.func11, Tryz.ntmps11
  go_upto_region 2 with (go_at_call 28; refine kR.mono ?_; rintro e w1 ⟨r, g, rv, no, acc, rfl, h1, hR, hR2⟩; obtain rfl : Rn = no := hR; obtain ⟨x0, x1, x2⟩ := h1.rd.facts; have kS := stopped_any g s Ra Rn w1 h1.sc; have kA := at_any g s Ra Rn w1 h1.sc)
  clear kR
  cases Rn
  all_goals
    go_wp2_with (first
      | (go_at_call 29; refine kS.mono ?_; rintro e w2 ⟨rfl, rfl⟩)
      | (go_at_call 30; refine kA.mono ?_; rintro e w3 ⟨rfl, rfl⟩))
    go_ret
    exact ⟨rfl, h1.bl⟩
set_option maxHeartbeats 1600000 in
theorem rows_any (s : ByteArray) (w : World) (hs : s.size ≤ 1048576) :
    Calls Tryz.prog 12 #[.string s] w fun e w' => RowsE (openRows s.data.toList) e w' ∧ Below w.heap.size w w' := by
  have kR := oread_any s w hs
  generalize openRows s.data.toList = R at kR ⊢
  obtain ⟨R1, Ra, Rn⟩ := R
  go_enter Tryz.func12, Tryz.ntmps12
  go_upto_region 2 with (go_at_call 28; refine kR.mono ?_; rintro e w1 ⟨r, g, rv, no, acc, rfl, h1, hR, hR2⟩; obtain rfl : Rn = no := hR; obtain ⟨x0, x1, x2⟩ := h1.rd.facts; have kS := stopped_any g s Ra Rn w1 h1.sc; obtain ⟨A, c, rfl, hrows⟩ := h1.has)
  clear kR
  cases Rn
  · have hR1 : R1 = acc.map VRow.row := hR2 rfl
    rw [← hR1] at hrows
    clear hR2 hR1
    go_wp2_with (go_at_call 29; refine kS.mono ?_; rintro e w2 ⟨rfl, rfl⟩)
    go_ret2
    exact ⟨rowsE_yes hrows, h1.bl⟩
  · go_wp2_with (go_at_call 29; refine kS.mono ?_; rintro e w2 ⟨rfl, rfl⟩)
    go_ret2
    exact ⟨rowsE_no, h1.bl⟩
end
section
/-- Rows that a call tells, with their tags, and the room of these. -/
def HasRowsC (w : World) (B : Nat) (A : Option Addr) (n : Nat) (rows : List MRow) : Prop :=
  ∃ l : List VRow, l.map VRow.row = rows ∧ IsRows rowCell 10 w B A n l ∧ ∀ x ∈ l, IsRows tagCell 4 w B x.tA x.row.tags.length x.row.tags ∧ x.row.tags.length ≤ x.tc
theorem HasRowsC.nil_ {w : World} {B : Nat} {A : Option Addr} : HasRowsC w B A 0 [] := ⟨[], rfl, IsRows.nil_, by simp⟩
theorem own_cap {w : World} {base : Nat} {e : TypeId} {size n c : Nat} {A : Option Addr} {xs : List Value} (h : w.ownsRow base e size (.slice A n c) n xs) : n ≤ c := by
  obtain ⟨_, ⟨hv, rfl⟩ | ⟨g, cap, cur, hv, _, _, hnc, _⟩⟩ := h
  · exact Nat.zero_le _
  · injection hv with _ _ hc
    subst hc
    exact hnc
theorem RX.hasC {w0 w : World} {r g : Nat} {rv : Value} {s : ByteArray} {a : Nat} {no : Bool} {acc : List VRow} (h : RX w0 w r g rv s a no acc) : ∃ A c, rv = .slice A acc.length c ∧ HasRowsC w w.heap.size A acc.length (acc.map VRow.row) := by
  obtain ⟨A, c, rfl⟩ := own_form h.own
  exact ⟨A, c, rfl, acc, rfl, own_rows2 (f := rowCell) (fun _ => rfl) h.own rfl, fun x hx => ⟨own_rows2 (f := tagCell) (fun _ => rfl) (h.all x hx).1 rfl, own_cap (h.all x hx).1⟩⟩
def RowsCE (R : List MRow × Nat × Bool) (e : Ending) (w' : World) : Prop := ∃ A n c, e = .returned (.tuple #[.slice A n c, .bool (!R.2.2)]) ∧ HasRowsC w' w'.heap.size A n (if R.2.2 then [] else R.1)
theorem rowsC_no {R : List MRow} {a : Nat} {w' : World} : RowsCE (R, a, true) (.returned (.tuple #[.slice none 0 0, .bool false])) w' := ⟨_, _, _, rfl, HasRowsC.nil_⟩
theorem rowsC_yes {R : List MRow} {a : Nat} {w' : World} {A : Option Addr} {n c : Nat} (h : HasRowsC w' w'.heap.size A n R) : RowsCE (R, a, false) (.returned (.tuple #[.slice A n c, .bool true])) w' := ⟨_, _, _, rfl, h⟩
set_option maxHeartbeats 1600000 in
theorem rowsC_any (s : ByteArray) (w : World) (hs : s.size ≤ 1048576) :
    Calls Tryz.prog 12 #[.string s] w fun e w' => RowsCE (openRows s.data.toList) e w' ∧ Below w.heap.size w w' := by
  have kR := oread_any s w hs
  generalize openRows s.data.toList = R at kR ⊢
  obtain ⟨R1, Ra, Rn⟩ := R
  go_enter Tryz.func12, Tryz.ntmps12
  go_upto_region 2 with (go_at_call 28; refine kR.mono ?_; rintro e w1 ⟨r, g, rv, no, acc, rfl, h1, hR, hR2⟩; obtain rfl : Rn = no := hR; obtain ⟨x0, x1, x2⟩ := h1.rd.facts; have kS := stopped_any g s Ra Rn w1 h1.sc; obtain ⟨A, c, rfl, hrows⟩ := h1.hasC)
  clear kR
  cases Rn
  · have hR1 : R1 = acc.map VRow.row := hR2 rfl
    rw [← hR1] at hrows
    clear hR2 hR1
    go_wp2_with (go_at_call 29; refine kS.mono ?_; rintro e w2 ⟨rfl, rfl⟩)
    go_ret2
    exact ⟨rowsC_yes hrows, h1.bl⟩
  · go_wp2_with (go_at_call 29; refine kS.mono ?_; rintro e w2 ⟨rfl, rfl⟩)
    go_ret2
    exact ⟨rowsC_no, h1.bl⟩
end
end Go.Proofs.YtcapbikelgcmmaaGreatDoor
