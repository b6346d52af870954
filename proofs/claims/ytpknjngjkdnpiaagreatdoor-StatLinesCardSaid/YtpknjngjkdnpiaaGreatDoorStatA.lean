/- The walks of package statread: what is counted, a tag. -/
import Derived.Test.YtpknjngjkdnpiaaGreatDoorMgB
import Derived.Test.YtpknjngjkdnpiaaGreatDoorCls
import Derived.Test.YtpknjngjkdnpiaaGreatDoorRdA
import Derived.Test.YtpknjngjkdnpiaaGreatDoorAppAny
import Derived.BigRegion
namespace Go.Proofs.YtpknjngjkdnpiaaGreatDoor
set_option linter.unusedVariables false
set_option linter.unusedSimpArgs false
open Go.RowKit
set_option maxRecDepth 100000 in
set_option maxHeartbeats 1600000 in
theorem kind_any (r g : Nat) (rv : Value) (s : ByteArray) (a : Nat) (no : Bool) (K : Nat) (a' : Nat) (no' : Bool) (w : World) (h : LR w w r g rv s a no) (ha : a ≤ s.size) (hs : s.size ≤ 1048576) (hR : kindS s.data.toList a no = (K, a', no')) :
    Calls Tryz.prog 66 #[.pointer (some ⟨r, 0, none⟩)] w fun e w' => e = .returned (.int .i64 (K : Int)) ∧ LR w w' r g rv s a' no' := by
  have hs2 : s.size ≤ 4611686018427387904 := Nat.le_trans hs (by decide)
  have x0 := h.facts
  have kT1 := fun W h => takes_any g s a no 99 W h ha hs2
  have kT2 := fun W h => takes_any g s a no 103 W h ha hs2
  have kT3 := fun W h => takes_any g s a no 115 W h ha hs2
  unfold takeA at kT1 kT2 kT3
  unfold kindS at hR
  cases q1 : isB s.data.toList a no 99
  case true =>
    obtain ⟨_, hno, _⟩ := isB_lt q1
    subst hno
    simp only [q1, if_true] at kT1 hR
    obtain ⟨rfl, rfl, rfl⟩ : 1 = K ∧ a + 1 = a' ∧ false = no' := by injection hR with e1 e2; injection e2 with e3 e4; exact ⟨e1, e3, e4⟩
    clear hR kT2 kT3 q1
    go_enter Tryz.func66, Tryz.ntmps66
    go_wp2_with (go_at_call 67; (with_reducible refine (kT1 _ h.sc).mono ?_); rintro e w1 ⟨rfl, h1, hA1⟩; have L1 := h.scan hA1 h1 (by simp))
    go_ret
    exact ⟨rfl, L1⟩
  case false =>
    simp only [q1, Bool.false_eq_true, if_false] at kT1 hR
    cases q2 : isB s.data.toList a no 103
    case true =>
      obtain ⟨_, hno, _⟩ := isB_lt q2
      subst hno
      simp only [q2, if_true] at kT2 hR
      obtain ⟨rfl, rfl, rfl⟩ : 2 = K ∧ a + 1 = a' ∧ false = no' := by injection hR with e1 e2; injection e2 with e3 e4; exact ⟨e1, e3, e4⟩
      clear hR kT3 q1 q2
      go_enter Tryz.func66, Tryz.ntmps66
      go_wp2_with (first
        | (go_at_call 67; (with_reducible refine (kT1 _ h.sc).mono ?_); rintro e w1 ⟨rfl, h1, hA1⟩; have L1 := h.scan hA1 h1 (by simp); have x1 := L1.facts)
        | (go_at_call 67; (with_reducible refine (kT2 _ L1.sc).mono ?_); rintro e w2 ⟨rfl, h2, hA2⟩; have L2 := L1.scan hA2 h2 (by simp)))
      go_ret
      exact ⟨rfl, L2⟩
    case false =>
      simp only [q2, Bool.false_eq_true, if_false] at kT2 hR
      cases q3 : isB s.data.toList a no 115
      case true =>
        obtain ⟨_, hno, _⟩ := isB_lt q3
        subst hno
        simp only [q3, if_true] at kT3 hR
        obtain ⟨rfl, rfl, rfl⟩ : 5 = K ∧ a + 1 = a' ∧ false = no' := by injection hR with e1 e2; injection e2 with e3 e4; exact ⟨e1, e3, e4⟩
        clear hR q1 q2 q3
        go_enter Tryz.func66, Tryz.ntmps66
        go_wp2_with (first
          | (go_at_call 67; (with_reducible refine (kT1 _ h.sc).mono ?_); rintro e w1 ⟨rfl, h1, hA1⟩; have L1 := h.scan hA1 h1 (by simp); have x1 := L1.facts)
          | (go_at_call 67; (with_reducible refine (kT2 _ L1.sc).mono ?_); rintro e w2 ⟨rfl, h2, hA2⟩; have L2 := L1.scan hA2 h2 (by simp); have x2 := L2.facts)
          | (go_at_call 67; (with_reducible refine (kT3 _ L2.sc).mono ?_); rintro e w3 ⟨rfl, h3, hA3⟩; have L3 := L2.scan hA3 h3 (by simp)))
        go_ret
        exact ⟨rfl, L3⟩
      case false =>
        simp only [q3, Bool.false_eq_true, if_false] at kT3 hR
        obtain ⟨rfl, hW⟩ : 4 = K ∧ wordS s.data.toList wMs a no = (a', no') := by injection hR with e1 e2; exact ⟨e1, e2⟩
        have kW := fun W h => word_any g s ⟨#[109, 115]⟩ a no a' no' W h ha hs2 (by decide) hW
        clear hR q1 q2 q3 hW
        go_enter Tryz.func66, Tryz.ntmps66
        go_wp2_with (first
          | (go_at_call 67; (with_reducible refine (kT1 _ h.sc).mono ?_); rintro e w1 ⟨rfl, h1, hA1⟩; have L1 := h.scan hA1 h1 (by simp); have x1 := L1.facts)
          | (go_at_call 67; (with_reducible refine (kT2 _ L1.sc).mono ?_); rintro e w2 ⟨rfl, h2, hA2⟩; have L2 := L1.scan hA2 h2 (by simp); have x2 := L2.facts)
          | (go_at_call 67; (with_reducible refine (kT3 _ L2.sc).mono ?_); rintro e w3 ⟨rfl, h3, hA3⟩; have L3 := L2.scan hA3 h3 (by simp); have x3 := L3.facts)
          | (go_at_call 64; (with_reducible refine (kW _ L3.sc).mono ?_); rintro e w4 ⟨rfl, h4, hA4⟩; have L4 := L3.scan hA4 h4 (by simp)))
        go_ret
        exact ⟨rfl, L4⟩
set_option maxRecDepth 100000 in
set_option maxHeartbeats 1600000 in
theorem stag_any (r g : Nat) (rv : Value) (s : ByteArray) (a : Nat) (no : Bool) (T : MTag) (a' : Nat) (no' : Bool) (w : World) (h : LR w w r g rv s a no) (ha : a ≤ s.size) (hs : s.size ≤ 1048576) (hR : sTagS s.data.toList a no = (T, a', no')) :
    Calls Tryz.prog 69 #[.pointer (some ⟨r, 0, none⟩)] w fun e w' => e = .returned (.agg #[.string T.name, .string T.value, .int .i64 (T.off : Int), .int .i64 (T.pos : Int)]) ∧ LR w w' r g rv s a' no' := by
  have hL : s.data.toList.length = s.size := by simp
  have hs2 : s.size ≤ 4611686018427387904 := Nat.le_trans hs (by decide)
  obtain ⟨a1, n1, h1⟩ : ∃ a1 n1, someS s.data.toList stName a no = (a1, n1) := ⟨_, _, rfl⟩
  obtain ⟨a2, n2, h2⟩ : ∃ a2 n2, wordS s.data.toList [58] a1 n1 = (a2, n2) := ⟨_, _, rfl⟩
  obtain ⟨a3, n3, h3⟩ : ∃ a3 n3, someS s.data.toList stValue a2 n2 = (a3, n3) := ⟨_, _, rfl⟩
  have hl1 := someS_le s.data.toList stName a no (by rw [hL]; exact ha)
  rw [h1, hL] at hl1
  have hl2 := wordS_le s.data.toList [58] a1 n1 (by rw [hL]; exact hl1.2)
  rw [h2, hL] at hl2
  simp only at hl1 hl2
  unfold sTagS at hR
  simp only [h1, h2, h3] at hR
  obtain ⟨rfl, rfl, rfl⟩ : (⟨mkS (cutL s.data.toList a a1), mkS (cutL s.data.toList a2 a3), a, a2⟩ : MTag) = T ∧ a3 = a' ∧ n3 = no' := by
    injection hR with e1 e2; injection e2 with e3 e4; exact ⟨e1, e3, e4⟩
  have kA := fun W a no h => at_any g s a no W h
  have kN := fun W h => some_stname g s a no a1 n1 W h ha hs2 h1
  have kW := fun W h => word_any g s ⟨#[58]⟩ a1 n1 a2 n2 W h hl1.2 hs2 (by decide) h2
  have kI := fun W h => some_stvalue g s a2 n2 a3 n3 W h hl2.2 hs2 h3
  rw [ext_cut] at kN kI
  simp only
  clear hR h1 h2 h3
  generalize mkS (cutL s.data.toList a2 a3) = V2 at kI ⊢
  generalize mkS (cutL s.data.toList a a1) = V1 at kN ⊢
  have hr := Blk.lt h.rd
  have hg := Blk.lt h.sc
  have U1 : LU w ((w.alloc (.cells #[.string ⟨#[]⟩, .string ⟨#[]⟩, .int .i64 0, .int .i64 0] 78)).alloc (.cells #[.string ⟨#[]⟩, .string ⟨#[]⟩, .int .i64 (a : Int), .int .i64 0] 78)) r g rv s a no (w.heap.size + 1) ⟨#[]⟩ ⟨#[]⟩ a 0 w.heap.size :=
    ⟨(h.alloc _).alloc _, by
      have := Blk.new (w.alloc (.cells #[.string ⟨#[]⟩, .string ⟨#[]⟩, .int .i64 0, .int .i64 0] 78)) 78 #[.string ⟨#[]⟩, .string ⟨#[]⟩, .int .i64 (a : Int), .int .i64 0]
      simpa [Tg] using this, Blk.alloc (Blk.new w _ _) _, ⟨by omega, by omega, by omega, by omega⟩, by omega, by omega, Nat.le_refl _⟩
  have x0 := (h.alloc (.cells #[.string ⟨#[]⟩, .string ⟨#[]⟩, .int .i64 0, .int .i64 0] 78)).facts
  have x1 := U1.lr.facts
  obtain ⟨_, f10, _⟩ := U1.tg.facts
  go_enter Tryz.func69, Tryz.ntmps69
  go_wp2_with (first
    | (go_at_call 25; (with_reducible refine (kA _ a no (h.alloc _).sc).mono ?_); rintro e w1 ⟨rfl, rfl⟩)
    | (go_at_call 62; (with_reducible refine (kN _ U1.lr.sc).mono ?_); rintro e w2 ⟨rfl, h2, hA2⟩; have U2 := U1.scan hA2 h2 (by simp); have x2 := U2.lr.facts; obtain ⟨_, f20, _⟩ := U2.tg.facts; have U3 := U2.name V1; have x3 := U3.lr.facts)
    | (go_at_call 64; (with_reducible refine (kW _ U3.lr.sc).mono ?_); rintro e w4 ⟨rfl, h4, hA4⟩; have U4 := U3.scan hA4 h4 (by simp); have x4 := U4.lr.facts; obtain ⟨_, _, _, _, f43⟩ := U4.tg.facts; have U5 := U4.pos_ a2; have x5 := U5.lr.facts)
    | (go_at_call 25; (with_reducible refine (kA _ a2 n2 U4.lr.sc).mono ?_); rintro e w5 ⟨rfl, rfl⟩)
    | (go_at_call 62; (with_reducible refine (kI _ U5.lr.sc).mono ?_); rintro e w6 ⟨rfl, h6, hA6⟩; have U6 := U5.scan hA6 h6 (by simp); have x6 := U6.lr.facts; obtain ⟨_, _, f61, _⟩ := U6.tg.facts; have U7 := U6.val V2; obtain ⟨⟨c0, c1, c2, c3⟩, _⟩ := U7.tg.facts; obtain ⟨⟨e0, e1, e2, e3⟩, v0, v1, v2, v3⟩ := U7.tu.facts))
  have L9 := U7.out
  exact bodyPost_ret (v := .agg #[.string V1, .string V2, .int .i64 (a : Int), .int .i64 (a2 : Int)]) (by simp [results, Tryz.results69, go_sem, e0, e1, e2, e3]) rfl ⟨rfl, L9⟩
end Go.Proofs.YtpknjngjkdnpiaaGreatDoor
