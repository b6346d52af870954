/- The walks of package dotsread: a path, a tag. -/
import Derived.Test.YtoplengednoldaaGreatDoorMgPl8
import Derived.Test.YtoplengednoldaaGreatDoorCls
import Derived.Test.YtoplengednoldaaGreatDoorRdA
import Derived.Test.YtoplengednoldaaGreatDoorAppAny
import Derived.BigRegion
namespace Go.Proofs.YtoplengednoldaaGreatDoor
set_option linter.unusedVariables false
set_option linter.unusedSimpArgs false
open Go.RowKit
/-- Two texts that stand beside each other, the point between them. -/
theorem ext_join (s : ByteArray) {a p b : Nat} (h1 : a ≤ p) (h2 : p < s.size) (h3 : bt s.data.toList p = 46) (h4 : p + 1 ≤ b) : s.extract a p ++ (⟨#[46]⟩ ++ s.extract (p + 1) b) = s.extract a b := by
  apply bytes_ext
  have hp : p < s.data.toList.length := by simpa using h2
  have e : s.data.toList[p] = 46 := by
    rw [bt_get hp] at h3
    exact UInt8.toNat_inj.1 (by show _ = 46; omega)
  rw [ByteArray.data_append, Array.toList_append, ByteArray.data_append, Array.toList_append, ext_bytes, ext_bytes, ext_bytes]
  show _ ++ (46 :: _) = _
  have e2 : b - a = (p - a) + (b - p) := by omega
  rw [e2, List.take_add, List.drop_drop, show a + (p - a) = p by omega, List.drop_eq_getElem_cons hp, e, show b - p = (b - (p + 1)) + 1 by omega, List.take_succ_cons]
  rfl
theorem dRest_step (l : List UInt8) (f a : Nat) (no : Bool) : dRestS l (f + 1) a no = if isB l a no 46 then dRestS l f (someS l dtNode (a + 1) false).1 (someS l dtNode (a + 1) false).2 else (a, no) := rfl
set_option maxRecDepth 100000 in
set_option maxHeartbeats 3200000 in
theorem dpath_any (r g : Nat) (rv : Value) (s : ByteArray) (a a' : Nat) (no' : Bool) (w : World) (h : LR w w r g rv s a false) (ha : a ≤ s.size) (hs : s.size ≤ 1048576) (hR : dPathS s.data.toList a = (a', no')) :
    Calls Tryz.prog 74 #[.pointer (some ⟨r, 0, none⟩)] w fun e w' => e = .returned (.string (s.extract a a')) ∧ LR w w' r g rv s a' no' := by
  have hL : s.data.toList.length = s.size := by simp
  have HL := Lib.hid hL
  have hs2 : s.size ≤ 4611686018427387904 := Nat.le_trans hs (by decide)
  obtain ⟨a1, n1, h1⟩ : ∃ a1 n1, someS s.data.toList dtNode a false = (a1, n1) := ⟨_, _, rfl⟩
  have hl1 := someS_le s.data.toList dtNode a false (by rw [hL]; exact ha)
  rw [h1, hL] at hl1
  unfold dPathS at hR
  rw [h1, hL] at hR
  simp only at hl1 hR
  have kN := fun W h => some_dtnode g s a false a1 n1 W h ha hs2 h1
  have HR := Lib.hid hR
  have x0 := h.facts
  have hz0 : (s.extract a a1).size ≤ s.size := by rw [ByteArray.size_extract]; omega
  obtain ⟨t0, ht0⟩ : ∃ t0, s.extract a a1 = t0 := ⟨_, rfl⟩
  rw [ht0] at kN hz0
  have HT0 := Lib.hid ht0.symm
  clear hR h1 hL ht0
  go_enter Tryz.func74, Tryz.ntmps74
  go_wp2_with (go_at_call 135; (with_reducible refine (kN _ h.sc).mono ?_); rintro e w1 ⟨rfl, h1, hA1⟩; have L1 := h.scan hA1 h1 (by simp))
  go_loopw [3] (fun v wr => ∃ (p f : Nat) (no : Bool) (t : ByteArray), v = .string t ∧ a ≤ p ∧ p ≤ s.size ∧ s.size < f + p ∧ t.size ≤ s.size ∧ LR w wr r g rv s p no ∧ Hid (t = s.extract a p) ∧ Hid (dRestS s.data.toList f p no = (a', no'))) (fun _ wr => mOf wr g s)
  case atStart => exact ⟨a1, _, n1, t0, rfl, hl1.1, hl1.2, by omega, hz0, L1, HT0, HR⟩
  case round =>
    clear L1 h1 hA1 x0 HR HT0 hz0 kN
    obtain ⟨p, f, no, t, rfl, hap, hp, hf, hts, hX, HT, HG⟩ := hrel
    have hm0 := hX.sc.mOf
    have z0 := hX.facts
    have kT := fun W h => takes_any g s p no 46 W h hp hs2
    unfold takeA at kT
    obtain ⟨f, rfl⟩ : ∃ f', f = f' + 1 := ⟨f - 1, by omega⟩
    have hG := HG.out
    rw [dRest_step] at hG
    cases hq : isB s.data.toList p no 46
    case false =>
      simp only [hq, Bool.false_eq_true, if_false] at kT hG
      obtain ⟨rfl, rfl⟩ : p = a' ∧ no = no' := by injection hG with e1 e2; exact ⟨e1, e2⟩
      clear hG HG hq
      go_wp2_with (go_at_call 75; (with_reducible refine (kT _ hX.sc).mono ?_); rintro e w2 ⟨rfl, h2, hA2⟩; have L2 := hX.scan hA2 h2 (by simp))
      go_ret
      exact ⟨ret_str HT.out, L2⟩
    case true =>
      obtain ⟨hlt, hno, hbt⟩ := isB_lt hq
      rw [HL.out] at hlt
      subst hno
      simp only [hq, if_true] at kT hG
      obtain ⟨b1, m1, e1⟩ : ∃ b1 m1, someS s.data.toList dtNode (p + 1) false = (b1, m1) := ⟨_, _, rfl⟩
      have hb1 := someS_le s.data.toList dtNode (p + 1) false (by rw [HL.out]; omega)
      rw [e1, HL.out] at hb1
      rw [e1] at hG
      simp only at hb1 hG
      have kS := fun W h => some_dtnode g s (p + 1) false b1 m1 W h (by omega) hs2 e1
      have HJ := Lib.hid (ext_join s hap hlt hbt hb1.1)
      have hxz : (s.extract (p + 1) b1).size ≤ s.size := by rw [ByteArray.size_extract]; omega
      have hq1 : ¬ 9223372036854775807 < 1 + (s.extract (p + 1) b1).size := by omega
      have hq2 : ¬ 9223372036854775807 < t.size + (1 + (s.extract (p + 1) b1).size) := by omega
      have hnew : (t ++ (⟨#[46]⟩ ++ s.extract (p + 1) b1)).size ≤ s.size := by rw [HT.out, HJ.out, ByteArray.size_extract]; omega
      have HT2 : Hid (t ++ (⟨#[46]⟩ ++ s.extract (p + 1) b1) = s.extract a b1) := Lib.hid (by rw [HT.out, HJ.out])
      have HG2 := Lib.hid hG
      clear hG HG hq e1 HJ HT hxz hbt
      generalize s.extract (p + 1) b1 = X at *
      go_wp2_with (first
        | (go_at_call 75; (with_reducible refine (kT _ hX.sc).mono ?_); rintro e w2 ⟨rfl, h2, hA2⟩; have L2 := hX.scan hA2 h2 (by simp); have z2 := L2.facts)
        | (go_at_call 135; (with_reducible refine (kS _ L2.sc).mono ?_); rintro e w3 ⟨rfl, h3, hA3⟩; have L3 := L2.scan hA3 h3 (by simp)))
      refine ⟨⟨b1, f, m1, _, rfl, by omega, hb1.2, by omega, hnew, L3, HT2, HG2⟩, ?_⟩
      rw [L3.sc.mOf, hm0]
      cases m1
      · simp; omega
      · simp; omega
set_option maxRecDepth 100000 in
set_option maxHeartbeats 1600000 in
theorem dtag_any (r g : Nat) (rv : Value) (s : ByteArray) (a : Nat) (no : Bool) (T : MTag) (a' : Nat) (no' : Bool) (w : World) (h : LR w w r g rv s a no) (ha : a ≤ s.size) (hs : s.size ≤ 1048576) (hR : dTagS s.data.toList a no = (T, a', no')) :
    Calls Tryz.prog 76 #[.pointer (some ⟨r, 0, none⟩)] w fun e w' => e = .returned (.agg #[.string T.name, .string T.value, .int .i64 (T.off : Int), .int .i64 (T.pos : Int)]) ∧ LR w w' r g rv s a' no' := by
  have hL : s.data.toList.length = s.size := by simp
  have hs2 : s.size ≤ 4611686018427387904 := Nat.le_trans hs (by decide)
  obtain ⟨a1, n1, h1⟩ : ∃ a1 n1, someS s.data.toList dtNode a no = (a1, n1) := ⟨_, _, rfl⟩
  obtain ⟨a2, n2, h2⟩ : ∃ a2 n2, wordS s.data.toList [61] a1 n1 = (a2, n2) := ⟨_, _, rfl⟩
  obtain ⟨a3, n3, h3⟩ : ∃ a3 n3, someS s.data.toList dtInk a2 n2 = (a3, n3) := ⟨_, _, rfl⟩
  have hl1 := someS_le s.data.toList dtNode a no (by rw [hL]; exact ha)
  rw [h1, hL] at hl1
  have hl2 := wordS_le s.data.toList [61] a1 n1 (by rw [hL]; exact hl1.2)
  rw [h2, hL] at hl2
  simp only at hl1 hl2
  unfold dTagS at hR
  simp only [h1, h2, h3] at hR
  obtain ⟨rfl, rfl, rfl⟩ : (⟨mkS (cutL s.data.toList a a1), mkS (cutL s.data.toList a2 a3), a, a2⟩ : MTag) = T ∧ a3 = a' ∧ n3 = no' := by
    injection hR with e1 e2; injection e2 with e3 e4; exact ⟨e1, e3, e4⟩
  have kA := fun W a no h => at_any g s a no W h
  have kN := fun W h => some_dtnode g s a no a1 n1 W h ha hs2 h1
  have kW := fun W h => word_any g s ⟨#[61]⟩ a1 n1 a2 n2 W h hl1.2 hs2 (by decide) h2
  have kI := fun W h => some_dtink g s a2 n2 a3 n3 W h hl2.2 hs2 h3
  rw [ext_cut] at kN kI
  simp only
  clear hR h1 h2 h3
  generalize mkS (cutL s.data.toList a2 a3) = V2 at kI ⊢
  generalize mkS (cutL s.data.toList a a1) = V1 at kN ⊢
  have hr := Blk.lt h.rd
  have hg := Blk.lt h.sc
  have U1 : LU w ((w.alloc (.cells #[.string ⟨#[]⟩, .string ⟨#[]⟩, .int .i64 0, .int .i64 0] 86)).alloc (.cells #[.string ⟨#[]⟩, .string ⟨#[]⟩, .int .i64 (a : Int), .int .i64 0] 86)) r g rv s a no (w.heap.size + 1) ⟨#[]⟩ ⟨#[]⟩ a 0 w.heap.size :=
    ⟨(h.alloc _).alloc _, by
      have := Blk.new (w.alloc (.cells #[.string ⟨#[]⟩, .string ⟨#[]⟩, .int .i64 0, .int .i64 0] 86)) 86 #[.string ⟨#[]⟩, .string ⟨#[]⟩, .int .i64 (a : Int), .int .i64 0]
      simpa [Tg] using this, Blk.alloc (Blk.new w _ _) _, ⟨by omega, by omega, by omega, by omega⟩, by omega, by omega, Nat.le_refl _⟩
  have x0 := (h.alloc (.cells #[.string ⟨#[]⟩, .string ⟨#[]⟩, .int .i64 0, .int .i64 0] 86)).facts
  have x1 := U1.lr.facts
  obtain ⟨_, f10, _⟩ := U1.tg.facts
  go_enter Tryz.func76, Tryz.ntmps76
  go_wp2_with (first
    | (go_at_call 23; (with_reducible refine (kA _ a no (h.alloc _).sc).mono ?_); rintro e w1 ⟨rfl, rfl⟩)
    | (go_at_call 135; (with_reducible refine (kN _ U1.lr.sc).mono ?_); rintro e w2 ⟨rfl, h2, hA2⟩; have U2 := U1.scan hA2 h2 (by simp); have x2 := U2.lr.facts; obtain ⟨_, f20, _⟩ := U2.tg.facts; have U3 := U2.name V1; have x3 := U3.lr.facts)
    | (go_at_call 77; (with_reducible refine (kW _ U3.lr.sc).mono ?_); rintro e w4 ⟨rfl, h4, hA4⟩; have U4 := U3.scan hA4 h4 (by simp); have x4 := U4.lr.facts; obtain ⟨_, _, _, _, f43⟩ := U4.tg.facts; have U5 := U4.pos_ a2; have x5 := U5.lr.facts)
    | (go_at_call 23; (with_reducible refine (kA _ a2 n2 U4.lr.sc).mono ?_); rintro e w5 ⟨rfl, rfl⟩)
    | (go_at_call 135; (with_reducible refine (kI _ U5.lr.sc).mono ?_); rintro e w6 ⟨rfl, h6, hA6⟩; have U6 := U5.scan hA6 h6 (by simp); have x6 := U6.lr.facts; obtain ⟨_, _, f61, _⟩ := U6.tg.facts; have U7 := U6.val V2; obtain ⟨⟨c0, c1, c2, c3⟩, _⟩ := U7.tg.facts; obtain ⟨⟨e0, e1, e2, e3⟩, v0, v1, v2, v3⟩ := U7.tu.facts))
  have L9 := U7.out
  exact bodyPost_ret (v := .agg #[.string V1, .string V2, .int .i64 (a : Int), .int .i64 (a2 : Int)]) (by simp [results, Tryz.results76, go_sem, e0, e1, e2, e3]) rfl ⟨rfl, L9⟩
end Go.Proofs.YtoplengednoldaaGreatDoor
