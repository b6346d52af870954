/- The walks of package spot and of the reference's Spot, Fault. -/
import Derived.Test.YtcapbikelgcmmaaGreatDoorShelfS
import Derived.Test.YtcapbikelgcmmaaGreatDoorMem
import Derived.WalkSpells
import Derived.Deep.RegionHeld3
import Derived.WalkLawsBesides
namespace Go.Proofs.YtcapbikelgcmmaaGreatDoor
set_option linter.unusedVariables false
set_option linter.unusedSimpArgs false
open Go.RowKit
def clampO (n : Nat) (off : Int) : Int := min (max off 0) n
def lineOf (l : List UInt8) : Nat → Int
  | 0 => 1
  | n + 1 => if bt l n = 10 then lineOf l n + 1 else lineOf l n
def colOf (l : List UInt8) : Nat → Int
  | 0 => 1
  | n + 1 => if bt l n = 10 then 1 else colOf l n + 1
theorem lineOf_le (l : List UInt8) : ∀ n : Nat, 1 ≤ lineOf l n ∧ lineOf l n ≤ n + 1
  | 0 => by simp [lineOf]
  | n + 1 => by have := lineOf_le l n; unfold lineOf; split <;> omega
theorem colOf_le (l : List UInt8) : ∀ n : Nat, 1 ≤ colOf l n ∧ colOf l n ≤ n + 1
  | 0 => by simp [colOf]
  | n + 1 => by have := colOf_le l n; unfold colOf; split <;> omega
theorem count_line (l : List UInt8) : ∀ n : Nat, n ≤ l.length → (((l.take n).count 10 : Nat) : Int) + 1 = lineOf l n
  | 0, _ => by simp [lineOf]
  | n + 1, h => by
    have ih := count_line l n (by omega)
    rw [List.take_succ_eq_append_getElem (by omega), List.count_append]
    unfold lineOf
    rw [bt_get (by omega), ← ih]
    have e : ((l[n].toNat : Int) = 10) ↔ l[n] = 10 := by
      rw [← UInt8.toNat_inj]; simp; omega
    by_cases hc : l[n] = 10
    · simp [hc]
    · have : ¬ ((l[n].toNat : Int) = 10) := fun h => hc (e.1 h)
      rw [if_neg this]; simp [hc]
theorem colOf_spec (l : List UInt8) : ∀ n : Nat, (colOf l n = n + 1 ∧ ∀ j, j < n → bt l j ≠ 10) ∨ ∃ i : Nat, i < n ∧ colOf l n = n - i ∧ bt l i = 10 ∧ ∀ j, i < j → j < n → bt l j ≠ 10
  | 0 => .inl ⟨by simp [colOf], fun j h => by omega⟩
  | n + 1 => by
    unfold colOf
    by_cases h : bt l n = 10
    · rw [if_pos h]; exact .inr ⟨n, by omega, by omega, h, fun j h1 h2 => by omega⟩
    · rw [if_neg h]
      rcases colOf_spec l n with ⟨h1, h2⟩ | ⟨i, h1, h2, h3, h4⟩
      · refine .inl ⟨by omega, fun j hj => ?_⟩
        by_cases e : j = n
        · subst e; exact h
        · exact h2 j (by omega)
      · refine .inr ⟨i, by omega, by omega, h3, fun j hj hj' => ?_⟩
        by_cases e : j = n
        · subst e; exact h
        · exact h4 j hj (by omega)
theorem bt_bang (s : ByteArray) (j : Nat) (h : j < s.size) : ((s.data[j]!).toNat : Int) = bt s.data.toList j := by
  have h' : j < s.data.size := h
  rw [← getElem_bt h, getElem!_pos s.data j h']; rfl
theorem last_col (s : ByteArray) : (s.size : Int) - Lib.lastIndexByte s 10 = colOf s.data.toList s.size := by
  unfold Lib.lastIndexByte
  rcases Lib.lastIdx_spec s 10 s.size with ⟨h1, h2⟩ | ⟨i, h1, h2, h3, h4⟩ <;> rcases colOf_spec s.data.toList s.size with ⟨g1, g2⟩ | ⟨k, g1, g2, g3, g4⟩
  · rw [h1, g1]; omega
  · exact absurd (by rw [bt_bang _ _ g1]; exact g3) (h2 k g1)
  · exact absurd (by rw [← bt_bang _ _ h1]; exact h3) (g2 i h1)
  · rw [h2, g2]
    have h3' := bt_bang s i h1
    have g3' := bt_bang s k g1
    rcases Nat.lt_trichotomy i k with e | e | e
    · exact absurd (by rw [g3']; exact g3) (h4 k e g1)
    · rw [e]
    · exact absurd (by rw [← h3']; exact h3) (g4 i e h1)
theorem colOf_congr (l m : List UInt8) : ∀ n, (∀ j, j < n → bt l j = bt m j) → colOf l n = colOf m n
  | 0, _ => rfl
  | n + 1, h => by unfold colOf; rw [h n (by omega), colOf_congr l m n (fun j hj => h j (by omega))]
theorem bt_take (l : List UInt8) (n j : Nat) (h : j < n) : bt (l.take n) j = bt l j := by
  unfold bt; rw [List.getD_eq_getElem?_getD, List.getD_eq_getElem?_getD, List.getElem?_take_of_lt h]

def spotO (s : ByteArray) (off : Int) : Int := clampO s.size off
def spotL (s : ByteArray) (off : Int) : Int := lineOf s.data.toList (clampO s.size off).toNat
def spotC (s : ByteArray) (off : Int) : Int := colOf s.data.toList (clampO s.size off).toNat

theorem size_ext (s : ByteArray) (k : Nat) (hk : k ≤ s.size) : (s.extract 0 k).size = k := by simp; omega
theorem data_ext (s : ByteArray) (k : Nat) : (s.extract 0 k).data.toList = s.data.toList.take k := by
  rw [Lib.extract_data]; simp
theorem cnt_at (s : ByteArray) (k : Nat) (hk : k ≤ s.size) (w : World) :
    Calls Tryz.prog 52 #[.string (s.extract 0 k), .string ⟨#[10]⟩] w fun e w' => ∃ c : Int, (0 ≤ c ∧ c ≤ s.size) ∧ Hid (c + 1 = lineOf s.data.toList k) ∧ e = .returned (.int .i64 c) ∧ w = w' := by
  refine (Tryz.strings_Count_one _ _ _).mono ?_
  rintro e w' ⟨rfl, rfl⟩
  have hk' : k ≤ s.data.toList.length := by rw [← Lib.size_eq]; exact hk
  have h := count_line s.data.toList k hk'
  have hl := lineOf_le s.data.toList k
  refine ⟨_, ?_, ?_, rfl, rfl⟩
  · unfold Lib.countByte; rw [data_ext]; omega
  · show _ = _; unfold Lib.countByte; rw [data_ext]; exact h
theorem last_at (s : ByteArray) (k : Nat) (hk : k ≤ s.size) (hs : s.size ≤ 4611686018427387903) (w : World) :
    Calls Tryz.prog 53 #[.string (s.extract 0 k), .int .u8 10] w fun e w' => ∃ c : Int, (-1 ≤ c ∧ c ≤ k) ∧ Hid (k - c = colOf s.data.toList k) ∧ e = .returned (.int .i64 c) ∧ w = w' := by
  refine (Tryz.strings_LastIndexByte _ _ (by rw [size_ext s k hk]; omega) _).mono ?_
  rintro e w' ⟨rfl, rfl⟩
  have h := last_col (s.extract 0 k)
  rw [size_ext s k hk, data_ext] at h
  rw [colOf_congr _ s.data.toList k (fun j hj => bt_take _ _ _ hj)] at h
  have hl := colOf_le s.data.toList k
  exact ⟨_, by omega, h, rfl, rfl⟩

set_option maxHeartbeats 400000 in
theorem spOf_any (s : ByteArray) (off : Int) (w : World) (hs : s.size ≤ 4611686018427387903) :
    Calls Tryz.prog 27 #[.string s, .int .i64 off] w fun e w' => e = .returned (.agg #[.int .i64 (spotO s off), .int .i64 (spotL s off), .int .i64 (spotC s off)]) ∧ Below w.heap.size w w' := by
  have hk : (min (max off 0) (s.size : Int)).toNat ≤ s.size := by omega
  have hm : 0 ≤ min (max off 0) (s.size : Int) ∧ min (max off 0) (s.size : Int) ≤ s.size := by omega
  have Hn : Hid (((min (max off 0) (s.size : Int)).toNat : Int) = min (max off 0) (s.size : Int)) := Int.toNat_of_nonneg hm.1
  go_enter Tryz.func27, Tryz.ntmps27
  go_wp2_with (first
    | (go_at_call 52; refine (cnt_at s _ hk _).mono ?_; rintro e w1 ⟨c, ⟨c0, c1⟩, hc, rfl, rfl⟩)
    | (go_at_call 53; refine (last_at s _ hk hs _).mono ?_; rintro e w1 ⟨d, ⟨d0, d1⟩, hd, rfl, rfl⟩))
  refine bodyPost_ret (v := .agg #[.int .i64 (spotO s off), .int .i64 (spotL s off), .int .i64 (spotC s off)]) ?_ rfl ⟨rfl, ?_⟩
  · have e1 := hc.out; have e2 := hd.out; have e3 := Hn.out
    simp [results, Tryz.results27, go_sem, spotO, spotL, spotC, clampO]
    exact ⟨e1, by rw [← e2, e3]⟩
  · exact bl_alloc (Below.refl _ _) _

set_option maxHeartbeats 800000 in
theorem refSpot_any (s : ByteArray) (off : Int) (w : World) (hs : s.size ≤ 4611686018427387903) :
    Calls Tryz.prog 71 #[.string s, .int .i64 off] w fun e w' => e = .returned (.agg #[.int .i64 (spotO s off), .int .i64 (spotL s off), .int .i64 (spotC s off)]) ∧ Below w.heap.size w w' := by
  obtain ⟨m, hm⟩ : ∃ m : Nat, (m : Int) = min (max off 0) (s.size : Int) := ⟨(min (max off 0) (s.size : Int)).toNat, by omega⟩
  have hms : m ≤ s.size := by omega
  have Hm := Lib.hid hm
  go_enter Tryz.func71, Tryz.ntmps71
  go_wp2_with fail
  rw [← hm]
  clear hm
  go_loopw [6] (fun i wr => ∃ k : Nat, k ≤ m ∧ i = .int .i64 k ∧ Blk wr (w.heap.size + 1) 29 #[.int .i64 m, .int .i64 (lineOf s.data.toList k), .int .i64 (colOf s.data.toList k)] ∧ (∃ a b c, Blk wr w.heap.size 29 #[a, b, c]) ∧ Below w.heap.size w wr) (fun i _ => m - (intOf i).toNat)
  case atStart =>
    refine ⟨0, by omega, rfl, ?_, ⟨_, _, _, (Blk.new w _ _).alloc _⟩, bl_alloc (bl_alloc (Below.refl _ _) _) _⟩
    have h := Blk.new (w.alloc (.cells #[.int .i64 0, .int .i64 0, .int .i64 0] 29)) 29 #[.int .i64 m, .int .i64 1, .int .i64 1]
    simpa [lineOf, colOf] using h
  case round =>
    obtain ⟨k, hk, rfl, B1, ⟨a, b, c, B0⟩, hb⟩ := hrel
    have c0 := B1.cell 0; have c1 := B1.cell 1; have c2 := B1.cell 2
    have f0 := B1.frozen 0; have f1 := B1.frozen 1; have f2 := B1.frozen 2
    have d0 := B0.cell 0; have d1 := B0.cell 1; have d2 := B0.cell 2
    have g0 := B0.frozen 0; have g1 := B0.frozen 1; have g2 := B0.frozen 2
    simp at c0 c1 c2 d0 d1 d2
    have hl := lineOf_le s.data.toList k
    have hc := colOf_le s.data.toList k
    by_cases hlt : k < m
    · have hks : k < s.size := by omega
      have Hbt : Hid (((s[k]'hks).toNat : Int) = bt s.data.toList k) := getElem_bt hks
      cases h10 : (((s[k]'hks).toNat : Int) == 10)
      · have hne : ¬ ((s[k]'hks).toNat : Int) = 10 := beq_eq_false_iff_ne.1 h10
        have Hs : Hid (lineOf s.data.toList (k + 1) = lineOf s.data.toList k ∧ colOf s.data.toList (k + 1) = colOf s.data.toList k + 1) := by
          rw [Hbt.out] at hne; simp [lineOf, colOf, hne, Hid]
        clear hne
        go_wp2_with fail
        go_roundw
        case rel =>
          refine ⟨k + 1, by omega, by go_num, ?_, ⟨_, _, _, B0.far (by simp) _⟩, bl_set hb (by simp) _⟩
          rw [Hs.out.1, Hs.out.2]
          have := B1.set_ 2 (.int .i64 (colOf s.data.toList k + 1))
          simpa using this
        case measure => simp [intOf]; omega
      · have heq : ((s[k]'hks).toNat : Int) = 10 := beq_iff_eq.1 h10
        have Hs : Hid (lineOf s.data.toList (k + 1) = lineOf s.data.toList k + 1 ∧ colOf s.data.toList (k + 1) = 1) := by
          rw [Hbt.out] at heq; simp [lineOf, colOf, heq, Hid]
        clear heq
        go_wp2_with fail
        go_roundw
        case rel =>
          refine ⟨k + 1, by omega, by go_num, ?_, ⟨_, _, _, ((B0.far (by simp) _).far (by simp) _).far (by simp) _⟩, bl_set (bl_set (bl_set hb (by simp) _) (by simp) _) (by simp) _⟩
          rw [Hs.out.1, Hs.out.2]
          have := ((B1.set_ 2 (.int .i64 (colOf s.data.toList k + 1))).set_ 1 (.int .i64 (lineOf s.data.toList k + 1))).set_ 2 (.int .i64 1)
          simpa using this
        case measure => simp [intOf]; omega
    · obtain rfl : k = m := by omega
      go_wp2_with fail
      refine bodyPost_ret (v := .agg #[.int .i64 (spotO s off), .int .i64 (spotL s off), .int .i64 (spotC s off)]) ?_ rfl ⟨rfl, ?_⟩
      · have B2 := ((B0.set_ 0 (.int .i64 k)).set_ 1 (.int .i64 (lineOf s.data.toList k))).set_ 2 (.int .i64 (colOf s.data.toList k))
        have q0 := B2.cell 0; have q1 := B2.cell 1; have q2 := B2.cell 2
        simp at q0 q1 q2
        simp [results, Tryz.results71, go_sem, spotO, spotL, spotC, clampO, ← Hm.out, q0, q1, q2]
      · exact bl_set (bl_set (bl_set hb (by simp) _) (by simp) _) (by simp) _

def fltO (code : Int) (s : ByteArray) (off : Int) : Int := if code = 0 then 0 else spotO s off
def fltL (code : Int) (s : ByteArray) (off : Int) : Int := if code = 0 then 0 else spotL s off
def fltC (code : Int) (s : ByteArray) (off : Int) : Int := if code = 0 then 0 else spotC s off
set_option maxHeartbeats 400000 in
theorem spAt_any (code : Int) (s : ByteArray) (off : Int) (w : World) (hs : s.size ≤ 4611686018427387903) :
    Calls Tryz.prog 10 #[.int .i64 code, .string s, .int .i64 off] w fun e w' => e = .returned (.agg #[.int .i64 code, .int .i64 (fltO code s off), .int .i64 (fltL code s off), .int .i64 (fltC code s off)]) ∧ Below w.heap.size w w' := by
  by_cases h0 : code = 0
  · subst h0
    go_enter Tryz.func10, Tryz.ntmps10
    go_wp2_with fail
    refine bodyPost_ret (v := .agg #[.int .i64 0, .int .i64 (fltO 0 s off), .int .i64 (fltL 0 s off), .int .i64 (fltC 0 s off)]) ?_ rfl ⟨rfl, ?_⟩
    · simp [results, Tryz.results10, go_sem, fltO, fltL, fltC]
    · exact bl_alloc (Below.refl _ _) _
  · have e0 : fltO code s off = spotO s off := if_neg h0
    have e1 : fltL code s off = spotL s off := if_neg h0
    have e2 : fltC code s off = spotC s off := if_neg h0
    rw [e0, e1, e2]
    clear e0 e1 e2
    go_enter Tryz.func10, Tryz.ntmps10
    go_wp2_with (go_at_call 27; refine (spOf_any _ _ _ hs).mono ?_; rintro e w1 ⟨rfl, hb⟩; have B0 := (Blk.new w 31 #[.int .i64 0, .int .i64 0, .int .i64 0, .int .i64 0]).below hb (by simp); have c0 := B0.cell 0; have c1 := B0.cell 1; have c2 := B0.cell 2; have c3 := B0.cell 3; have f0 := B0.frozen 0; have f1 := B0.frozen 1; have f2 := B0.frozen 2; have f3 := B0.frozen 3; simp at c0 c1 c2 c3)
    refine bodyPost_ret (v := .agg #[.int .i64 code, .int .i64 (spotO s off), .int .i64 (spotL s off), .int .i64 (spotC s off)]) ?_ rfl ⟨rfl, ?_⟩
    · have B0 := (Blk.new w 31 #[.int .i64 0, .int .i64 0, .int .i64 0, .int .i64 0]).below hb (by simp)
      have B2 := (((B0.set_ 0 (.int .i64 code)).set_ 1 (.int .i64 (spotO s off))).set_ 2 (.int .i64 (spotL s off))).set_ 3 (.int .i64 (spotC s off))
      have q0 := B2.cell 0; have q1 := B2.cell 1; have q2 := B2.cell 2; have q3 := B2.cell 3
      simp at q0 q1 q2 q3
      simp [results, Tryz.results10, go_sem, q0, q1, q2, q3]
    · exact bl_set (bl_set (bl_set (bl_set (bl_trans (bl_alloc (Below.refl _ _) _) hb) (by simp) _) (by simp) _) (by simp) _) (by simp) _
set_option maxHeartbeats 400000 in
theorem refFault_any (code : Int) (s : ByteArray) (off : Int) (w : World) (hs : s.size ≤ 4611686018427387903) :
    Calls Tryz.prog 39 #[.int .i64 code, .string s, .int .i64 off] w fun e w' => e = .returned (.agg #[.int .i64 code, .int .i64 (fltO code s off), .int .i64 (fltL code s off), .int .i64 (fltC code s off)]) ∧ Below w.heap.size w w' := by
  by_cases h0 : code = 0
  · subst h0
    go_enter Tryz.func39, Tryz.ntmps39
    go_wp2_with fail
    refine bodyPost_ret (v := .agg #[.int .i64 0, .int .i64 (fltO 0 s off), .int .i64 (fltL 0 s off), .int .i64 (fltC 0 s off)]) ?_ rfl ⟨rfl, ?_⟩
    · simp [results, Tryz.results39, go_sem, fltO, fltL, fltC]
    · exact bl_alloc (Below.refl _ _) _
  · have e0 : fltO code s off = spotO s off := if_neg h0
    have e1 : fltL code s off = spotL s off := if_neg h0
    have e2 : fltC code s off = spotC s off := if_neg h0
    rw [e0, e1, e2]
    clear e0 e1 e2
    go_enter Tryz.func39, Tryz.ntmps39
    go_wp2_with (go_at_call 71; refine (refSpot_any _ _ _ hs).mono ?_; rintro e w1 ⟨rfl, hb⟩; have B0 := (Blk.new w 31 #[.int .i64 0, .int .i64 0, .int .i64 0, .int .i64 0]).below hb (by simp); have c0 := B0.cell 0; have c1 := B0.cell 1; have c2 := B0.cell 2; have c3 := B0.cell 3; have f0 := B0.frozen 0; have f1 := B0.frozen 1; have f2 := B0.frozen 2; have f3 := B0.frozen 3; simp at c0 c1 c2 c3)
    refine bodyPost_ret (v := .agg #[.int .i64 code, .int .i64 (spotO s off), .int .i64 (spotL s off), .int .i64 (spotC s off)]) ?_ rfl ⟨rfl, ?_⟩
    · have B0 := (Blk.new w 31 #[.int .i64 0, .int .i64 0, .int .i64 0, .int .i64 0]).below hb (by simp)
      have B2 := (((B0.set_ 0 (.int .i64 code)).set_ 1 (.int .i64 (spotO s off))).set_ 2 (.int .i64 (spotL s off))).set_ 3 (.int .i64 (spotC s off))
      have q0 := B2.cell 0; have q1 := B2.cell 1; have q2 := B2.cell 2; have q3 := B2.cell 3
      simp at q0 q1 q2 q3
      simp [results, Tryz.results39, go_sem, q0, q1, q2, q3]
    · exact bl_set (bl_set (bl_set (bl_set (bl_trans (bl_alloc (Below.refl _ _) _) hb) (by simp) _) (by simp) _) (by simp) _) (by simp) _

theorem eqFault (a0 a1 a2 a3 b0 b1 b2 b3 : Int) (w : World) : (binOp .eql 31 (.agg #[.int .i64 a0, .int .i64 a1, .int .i64 a2, .int .i64 a3]) (.agg #[.int .i64 b0, .int .i64 b1, .int .i64 b2, .int .i64 b3])).run Tryz.prog w = .ok (.bool (a0 == b0 && (a1 == b1 && (a2 == b2 && a3 == b3)))) w := by
  cases h0 : (a0 == b0) <;> cases h1 : (a1 == b1) <;> cases h2 : (a2 == b2) <;> cases h3 : (a3 == b3) <;> simp only [beq_iff_eq, beq_eq_false_iff_ne] at h0 h1 h2 h3 <;> simp [go_sem, h0, h1, h2, h3]
theorem neqFault (a0 a1 a2 a3 b0 b1 b2 b3 : Int) (w : World) : (binOp .neq 31 (.agg #[.int .i64 a0, .int .i64 a1, .int .i64 a2, .int .i64 a3]) (.agg #[.int .i64 b0, .int .i64 b1, .int .i64 b2, .int .i64 b3])).run Tryz.prog w = .ok (.bool (!(a0 == b0 && (a1 == b1 && (a2 == b2 && a3 == b3))))) w := by
  cases h0 : (a0 == b0) <;> cases h1 : (a1 == b1) <;> cases h2 : (a2 == b2) <;> cases h3 : (a3 == b3) <;> simp only [beq_iff_eq, beq_eq_false_iff_ne] at h0 h1 h2 h3 <;> simp [go_sem, h0, h1, h2, h3]
theorem eqSpot (a1 a2 a3 b1 b2 b3 : Int) (w : World) : (binOp .eql 29 (.agg #[.int .i64 a1, .int .i64 a2, .int .i64 a3]) (.agg #[.int .i64 b1, .int .i64 b2, .int .i64 b3])).run Tryz.prog w = .ok (.bool (a1 == b1 && (a2 == b2 && a3 == b3))) w := by
  cases h1 : (a1 == b1) <;> cases h2 : (a2 == b2) <;> cases h3 : (a3 == b3) <;> simp only [beq_iff_eq, beq_eq_false_iff_ne] at h1 h2 h3 <;> simp [go_sem, h1, h2, h3]
theorem neqSpot (a1 a2 a3 b1 b2 b3 : Int) (w : World) : (binOp .neq 29 (.agg #[.int .i64 a1, .int .i64 a2, .int .i64 a3]) (.agg #[.int .i64 b1, .int .i64 b2, .int .i64 b3])).run Tryz.prog w = .ok (.bool (!(a1 == b1 && (a2 == b2 && a3 == b3)))) w := by
  cases h1 : (a1 == b1) <;> cases h2 : (a2 == b2) <;> cases h3 : (a3 == b3) <;> simp only [beq_iff_eq, beq_eq_false_iff_ne] at h1 h2 h3 <;> simp [go_sem, h1, h2, h3]
/-- Is a fault one of a text? -/
def goodB (c o l k : Int) (s : ByteArray) : Bool := o == fltO c s o && (l == fltL c s o && k == fltC c s o)

set_option maxHeartbeats 800000 in
theorem right_any (c o l k : Int) (s : ByteArray) (w : World) (hs : s.size ≤ 4611686018427387903) :
    Calls Tryz.prog 31 #[.agg #[.int .i64 c, .int .i64 o, .int .i64 l, .int .i64 k, .string s]] w fun e w' => e = .returned (.bool (goodB c o l k s)) ∧ Below w.heap.size w w' := by
  have ef := fun b0 b1 b2 b3 w => eqFault c o l k b0 b1 b2 b3 w
  go_enter Tryz.func31, Tryz.ntmps31
  go_wp2_with fail
  go_region_held3 (fun w' => w'.cell? ⟨w.heap.size, 0, none⟩ = some (.int .i64 c) ∧ w'.cell? ⟨w.heap.size, 1, none⟩ = some (.int .i64 o) ∧ w'.cell? ⟨w.heap.size, 2, none⟩ = some (.int .i64 l) ∧ w'.cell? ⟨w.heap.size, 3, none⟩ = some (.int .i64 k) ∧ w'.cell? ⟨w.heap.size, 4, none⟩ = some (.string s)) (first | go_keep | (simp [*]; done)) (first | (go_at_call 10; refine (spAt_any _ _ _ _ hs).mono ?_; rintro e w1 ⟨rfl, hb⟩; obtain ⟨hc, hf⟩ := bcell hb))
  go_wp2_with fail
  go_goals
  go_ret
  exact ⟨ret_bool (by simp [goodB]), by repeat (first | exact Below.refl _ _ | assumption | refine Below.drew ?_ | refine bl_alloc ?_ _ | refine bl_trans ?_ (by assumption))⟩

set_option maxHeartbeats 800000 in
theorem good_any (c o l k : Int) (s : ByteArray) (w : World) (hs : s.size ≤ 4611686018427387903) :
    Calls Tryz.prog 13 #[.agg #[.int .i64 c, .int .i64 o, .int .i64 l, .int .i64 k], .string s] w fun e w' => e = .returned (.bool (goodB c o l k s)) ∧ Below w.heap.size w w' := by
  go_enter Tryz.func13, Tryz.ntmps13
  go_wp2_with (go_at_call 31; refine (right_any _ _ _ _ _ _ hs).mono ?_; rintro e w1 ⟨rfl, hb⟩)
  go_ret
  exact ⟨rfl, by repeat (first | exact Below.refl _ _ | assumption | refine Below.drew ?_ | refine bl_alloc ?_ _ | refine bl_trans ?_ (by assumption))⟩
end Go.Proofs.YtcapbikelgcmmaaGreatDoor
