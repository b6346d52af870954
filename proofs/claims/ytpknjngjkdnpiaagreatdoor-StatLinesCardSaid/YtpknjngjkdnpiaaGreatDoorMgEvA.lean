/- The walks of statread's reader: fails, value. The walk of statread's reader: value. The walk of statread's reader: rate. -/
import Derived.Test.YtpknjngjkdnpiaaGreatDoorMgB
import Derived.Test.YtpknjngjkdnpiaaGreatDoorMgSum
import Derived.Test.YtpknjngjkdnpiaaGreatDoorSpot
import Derived.Test.YtpknjngjkdnpiaaGreatDoorLabD
import Derived.Test.YtpknjngjkdnpiaaGreatDoorStatC
import Derived.Test.YtpknjngjkdnpiaaGreatDoorShelfD
namespace Go.Proofs.YtpknjngjkdnpiaaGreatDoor
set_option linter.unusedVariables false
set_option linter.unusedSimpArgs false
open Go.RowKit
/-- The reader's block; an event's block. -/
def Rr (w : World) (r : Nat) (c o l k : Int) (s : ByteArray) (av : Value) : Prop := Blk w r 84 #[.int .i64 c, .int .i64 o, .int .i64 l, .int .i64 k, .string s, av]
def Ev (w : World) (e : Nat) (nm : ByteArray) (lv : Value) (K : Nat) (v q : Int × Nat) (m : ByteArray) : Prop := Blk w e 62 #[.string nm, lv, .int .i64 (K : Int), .int .i64 v.1, .int .i64 (v.2 : Int), .int .i64 q.1, .int .i64 (q.2 : Int), .string m]
section
variable {w w' : World} {r e : Nat} {c o l k : Int} {s nm : ByteArray} {av lv : Value} {K : Nat} {v q : Int × Nat} {m : ByteArray}
theorem Rr.facts (h : Rr w r c o l k s av) : (w.cell? ⟨r, 0, none⟩ = some (.int .i64 c) ∧ w.cell? ⟨r, 1, none⟩ = some (.int .i64 o) ∧ w.cell? ⟨r, 2, none⟩ = some (.int .i64 l) ∧ w.cell? ⟨r, 3, none⟩ = some (.int .i64 k) ∧ w.cell? ⟨r, 4, none⟩ = some (.string s) ∧ w.cell? ⟨r, 5, none⟩ = some av) ∧ w.frozen? ⟨r, 0, none⟩ = false ∧ w.frozen? ⟨r, 1, none⟩ = false ∧ w.frozen? ⟨r, 2, none⟩ = false ∧ w.frozen? ⟨r, 3, none⟩ = false ∧ w.frozen? ⟨r, 5, none⟩ = false :=
  ⟨⟨(Blk.cell h 0).trans rfl, (Blk.cell h 1).trans rfl, (Blk.cell h 2).trans rfl, (Blk.cell h 3).trans rfl, (Blk.cell h 4).trans rfl, (Blk.cell h 5).trans rfl⟩, Blk.frozen h 0, Blk.frozen h 1, Blk.frozen h 2, Blk.frozen h 3, Blk.frozen h 5⟩
theorem Ev.facts (h : Ev w e nm lv K v q m) : (w.cell? ⟨e, 0, none⟩ = some (.string nm) ∧ w.cell? ⟨e, 1, none⟩ = some lv ∧ w.cell? ⟨e, 2, none⟩ = some (.int .i64 (K : Int)) ∧ w.cell? ⟨e, 3, none⟩ = some (.int .i64 v.1) ∧ w.cell? ⟨e, 4, none⟩ = some (.int .i64 (v.2 : Int)) ∧ w.cell? ⟨e, 5, none⟩ = some (.int .i64 q.1) ∧ w.cell? ⟨e, 6, none⟩ = some (.int .i64 (q.2 : Int)) ∧ w.cell? ⟨e, 7, none⟩ = some (.string m)) ∧ w.frozen? ⟨e, 1, none⟩ = false ∧ w.frozen? ⟨e, 2, none⟩ = false ∧ w.frozen? ⟨e, 3, none⟩ = false ∧ w.frozen? ⟨e, 4, none⟩ = false ∧ w.frozen? ⟨e, 5, none⟩ = false ∧ w.frozen? ⟨e, 6, none⟩ = false ∧ w.frozen? ⟨e, 7, none⟩ = false :=
  ⟨⟨(Blk.cell h 0).trans rfl, (Blk.cell h 1).trans rfl, (Blk.cell h 2).trans rfl, (Blk.cell h 3).trans rfl, (Blk.cell h 4).trans rfl, (Blk.cell h 5).trans rfl, (Blk.cell h 6).trans rfl, (Blk.cell h 7).trans rfl⟩, Blk.frozen h 1, Blk.frozen h 2, Blk.frozen h 3, Blk.frozen h 4, Blk.frozen h 5, Blk.frozen h 6, Blk.frozen h 7⟩
theorem Rr.aw {S : List Nat} (h : Rr w r c o l k s av) (a : Aw S w w') (hr : r ∉ S) : Rr w' r c o l k s av := Blk.aw h a hr
theorem Ev.aw {S : List Nat} (h : Ev w e nm lv K v q m) (a : Aw S w w') (hr : e ∉ S) : Ev w' e nm lv K v q m := Blk.aw h a hr
theorem Rr.alloc (h : Rr w r c o l k s av) (o' : Obj) : Rr (w.alloc o') r c o l k s av := Blk.alloc h o'
theorem Ev.alloc (h : Ev w e nm lv K v q m) (o' : Obj) : Ev (w.alloc o') e nm lv K v q m := Blk.alloc h o'
theorem Rr.far (h : Rr w r c o l k s av) {p : Addr} (hp : r ≠ p.block) (u : Value) : Rr (w.setCell p u) r c o l k s av := Blk.far h hp u
theorem Ev.mem (h : Ev w e nm lv K v q m) (m' : ByteArray) : Ev (w.setCell ⟨e, 7, none⟩ (.string m')) e nm lv K v q m' := Blk.set_ h 7 (.string m')
theorem Ev.kind (h : Ev w e nm lv K v q m) : Ev (w.setCell ⟨e, 2, none⟩ (.int .i64 3)) e nm lv 3 v q m := Blk.set_ h 2 (.int .i64 3)
theorem Ev.val (h : Ev w e nm lv K v q m) (v' : Int × Nat) : Ev ((w.setCell ⟨e, 3, none⟩ (.int .i64 v'.1)).setCell ⟨e, 4, none⟩ (.int .i64 (v'.2 : Int))) e nm lv K v' q m := (Blk.set_ h 3 (.int .i64 v'.1)).set_ 4 (.int .i64 (v'.2 : Int))
theorem Ev.rate (h : Ev w e nm lv K v q m) (v' : Int × Nat) : Ev ((w.setCell ⟨e, 5, none⟩ (.int .i64 v'.1)).setCell ⟨e, 6, none⟩ (.int .i64 (v'.2 : Int))) e nm lv K v v' m := (Blk.set_ h 5 (.int .i64 v'.1)).set_ 6 (.int .i64 (v'.2 : Int))
theorem Ev.labs (h : Ev w e nm lv K v q m) (lv' : Value) : Ev (w.setCell ⟨e, 1, none⟩ lv') e nm lv' K v q m := Blk.set_ h 1 lv'
end
/-- The fault of a code at a place, in the reader's block. -/
def Rf (w : World) (r : Nat) (c : Nat) (at_ : Nat) (s : ByteArray) (av : Value) : Prop := Rr w r (c : Int) (fltO c s at_) (fltL c s at_) (fltC c s at_) s av
set_option maxHeartbeats 1600000 in
theorem fails_any (r : Nat) (c o l k : Int) (s : ByteArray) (av : Value) (cd at_ : Nat) (w : World) (h : Rr w r c o l k s av) (hs : s.size ≤ 1048576) :
    Calls Tryz.prog 49 #[.pointer (some ⟨r, 0, none⟩), .int .i64 (cd : Int), .int .i64 (at_ : Int)] w fun e w' => e = .returned (.bool false) ∧ Rf w' r cd at_ s av ∧ Aw [r] w w' := by
  have kS := fun W => spAt_any (cd : Int) s (at_ : Int) W (Nat.le_trans hs (by decide))
  unfold Rf
  generalize fltO cd s at_ = O at *
  generalize fltL cd s at_ = L at *
  generalize fltC cd s at_ = C at *
  obtain ⟨⟨c0, c1, c2, c3, c4, c5⟩, f0, f1, f2, f3, f5⟩ := h.facts
  go_enter Tryz.func49, Tryz.ntmps49
  go_wp2_with (go_at_call 20; (with_reducible refine (kS _).mono ?_); rintro e w1 ⟨rfl, hb1⟩; have h1 := h.aw (Aw.ofBelow (S := []) hb1) (by simp); have hA1 := Aw.ofBelow (S := [r]) hb1; obtain ⟨⟨d0, d1, d2, d3, d4, d5⟩, g0, g1, g2, g3, g5⟩ := h1.facts)
  go_ret
  exact ⟨rfl, (((Blk.set_ h1 0 (.int .i64 (cd : Int))).set_ 1 (.int .i64 O)).set_ 2 (.int .i64 L)).set_ 3 (.int .i64 C), (((hA1.setCell (.inl (by simp)) _).setCell (.inl (by simp)) _).setCell (.inl (by simp)) _).setCell (.inl (by simp)) _⟩
/-- What value does. -/
def ValP (w0 w : World) (r e : Nat) (c o l k : Int) (s : ByteArray) (av : Value) (nm : ByteArray) (lv : Value) : Except (Nat × Nat) (Nat × (Int × Nat) × ByteArray) → Ending → Prop
  | .error x, en => en = .returned (.bool false) ∧ Rf w r x.1 x.2 s av ∧ Aw [r, e] w0 w
  | .ok x, en => en = .returned (.bool true) ∧ Rr w r c o l k s av ∧ Ev w e nm lv x.1 x.2.1 (0, 0) x.2.2 ∧ Aw [r, e] w0 w
theorem plus_pre (l : List UInt8) : Lib.hasPrefix l [43] = plusT l := by
  unfold Lib.hasPrefix plusT
  cases l with
  | nil => rfl
  | cons c cs =>
    have e : bt (c :: cs) 0 = (c.toNat : Int) := rfl
    rw [e]
    have : ([43] : List UInt8).isPrefixOf (c :: cs) = (43 == c) := by simp [List.isPrefixOf]
    rw [this]
    exact u8_is c 43
theorem plus_trim (l : List UInt8) : Lib.trimPrefix l [43] = afterP l := by
  unfold Lib.trimPrefix afterP
  rw [plus_pre]
  rfl
theorem afterP_len (l : List UInt8) : (afterP l).length ≤ l.length := by
  unfold afterP; split <;> simp
theorem parseD_bd (l : List UInt8) : -9223372036854775807 ≤ (parseD l).1.1 ∧ (parseD l).1.1 ≤ 9223372036854775807 := by
  unfold parseD
  split
  · simp
  · rename_i wl pl a hc
    obtain ⟨g1, g2, _, _⟩ := cutD_dig hc
    split
    · simp
    · rename_i m hm
      have hb := numD_le _ 0 m (by omega) (fun c hc' => by
        rcases List.mem_append.1 hc' with h | h
        · exact (g1 c ((List.dropWhile_sublist _).subset h)).2
        · exact (g2 c (List.mem_reverse.1 ((List.dropWhile_sublist _).subset (List.mem_reverse.1 h)))).2) hm
      split
      · simp
      · simp only
        split <;> omega
set_option maxRecDepth 100000 in
set_option maxHeartbeats 6400000 in
theorem value_any (r e : Nat) (c o l k : Int) (s : ByteArray) (av : Value) (nm0 : ByteArray) (lv : Value) (K : Nat) (nm : ByteArray) (off : Nat) (tv fv : Value) (tx : ByteArray) (pos : Nat) (td : Bool) (tm : ByteArray) (wh : Nat) (w : World)
    (h : Rr w r c o l k s av) (hv : Ev w e nm0 lv K (0, 0) (0, 0) ⟨#[]⟩) (hre : r ≠ e) (hs : s.size ≤ 1048576) (hx : tx.size ≤ 1048576) :
    Calls Tryz.prog 50 #[.pointer (some ⟨r, 0, none⟩), .pointer (some ⟨e, 0, none⟩), .agg #[.int .i64 (K : Int), .string nm, .int .i64 (off : Int), tv, fv, .string tx, .int .i64 (pos : Int), .bool td, .string tm, .int .i64 (wh : Int)]] w fun en w' => ValP w w' r e c o l k s av nm0 lv (valueT K tx pos) en := by
  have kF12 : ∀ W, Rr W r c o l k s av → Calls Tryz.prog 49 #[.pointer (some ⟨r, 0, none⟩), .int .i64 12, .int .i64 (pos : Int)] W fun e w' => e = .returned (.bool false) ∧ Rf w' r 12 pos s av ∧ Aw [r] W w' := fun W h => fails_any r c o l k s av 12 pos W h hs
  have kF13 : ∀ W, Rr W r c o l k s av → Calls Tryz.prog 49 #[.pointer (some ⟨r, 0, none⟩), .int .i64 13, .int .i64 (pos : Int)] W fun e w' => e = .returned (.bool false) ∧ Rf w' r 13 pos s av ∧ Aw [r] W w' := fun W h => fails_any r c o l k s av 13 pos W h hs
  have kF14 : ∀ W, Rr W r c o l k s av → Calls Tryz.prog 49 #[.pointer (some ⟨r, 0, none⟩), .int .i64 14, .int .i64 (pos : Int)] W fun e w' => e = .returned (.bool false) ∧ Rf w' r 14 pos s av ∧ Aw [r] W w' := fun W h => fails_any r c o l k s av 14 pos W h hs
  have hrl := Blk.lt h
  have hel := Blk.lt hv
  have h1 := h.alloc (.cells #[.int .i64 (K : Int), .string nm, .int .i64 (off : Int), tv, fv, .string tx, .int .i64 (pos : Int), .bool td, .string tm, .int .i64 (wh : Int)] 74)
  have hv1 := hv.alloc (.cells #[.int .i64 (K : Int), .string nm, .int .i64 (off : Int), tv, fv, .string tx, .int .i64 (pos : Int), .bool td, .string tm, .int .i64 (wh : Int)] 74)
  have hb1 := Blk.new w 74 #[.int .i64 (K : Int), .string nm, .int .i64 (off : Int), tv, fv, .string tx, .int .i64 (pos : Int), .bool td, .string tm, .int .i64 (wh : Int)]
  have hA1 := (Aw.refl [r, e] w).alloc (.cells #[.int .i64 (K : Int), .string nm, .int .i64 (off : Int), tv, fv, .string tx, .int .i64 (pos : Int), .bool td, .string tm, .int .i64 (wh : Int)] 74)
  obtain ⟨⟨c0, c1, c2, c3, c4, c5, c6, c7⟩, f1, f2, f3, f4, f5, f6, f7⟩ := hv1.facts
  have r2 := (Blk.cell hb1 5).trans rfl
  obtain ⟨R, hR⟩ : ∃ R, valueT K tx pos = R := ⟨_, rfl⟩
  rw [hR]
  unfold valueT at hR
  go_enter Tryz.func50, Tryz.ntmps50
  go_upto_region 1 with (fail)
  generalize w.alloc (.cells #[.int .i64 (K : Int), .string nm, .int .i64 (off : Int), tv, fv, .string tx, .int .i64 (pos : Int), .bool td, .string tm, .int .i64 (wh : Int)] 74) = W1 at *
  cases hK5 : (K == 5)
  case true =>
    rw [hK5, if_pos rfl] at hR
    have k5 : ((K : Int) == 5) = true := by rw [beq_iff_eq] at hK5 ⊢; omega
    have h7 := h1.far (p := ⟨e, 7, none⟩) hre (.string tx)
    have hv7 := hv1.mem tx
    have hb7 := hb1.far (p := ⟨e, 7, none⟩) (by simp; omega) (.string tx)
    have hA7 := hA1.setCell (p := ⟨e, 7, none⟩) (.inl (by simp)) (.string tx)
    have r5 := (Blk.cell hb7 5).trans rfl
    have r6 := (Blk.cell hb7 6).trans rfl
    by_cases h60 : tx.size ≤ 60
    · rw [decide_eq_true h60, if_pos rfl] at hR
      subst hR
      have d60 : decide ((tx.size : Int) ≤ 60) = true := decide_eq_true (by omega)
      clear hK5
      go_wp2_with fail
      go_ret
      exact ⟨rfl, h7, hv7, hA7⟩
    · rw [decide_eq_false h60, if_neg (by decide)] at hR
      subst hR
      have d60 : decide ((tx.size : Int) ≤ 60) = false := decide_eq_false (by omega)
      clear hK5
      go_wp2_with (go_at_call 49; (with_reducible refine (kF14 _ h7).mono ?_); rintro en w9 ⟨rfl, h9, hA9⟩)
      go_ret
      exact ⟨rfl, h9, hA7.trans (hA9.mono (by simp))⟩
  case false =>
    rw [hK5, if_neg (by decide)] at hR
    have k5 : ((K : Int) == 5) = false := by rw [beq_eq_false_iff_ne] at hK5 ⊢; omega
    have r6 := (Blk.cell hb1 6).trans rfl
    have kC := fun W => Tryz.strings_CutPrefix tx ⟨#[43]⟩ W
    have e43 : (⟨#[43]⟩ : ByteArray).data.toList = [43] := rfl
    rw [e43, plus_pre, plus_trim] at kC
    have hpl := afterP_len tx.data.toList
    have htl : tx.data.toList.length = tx.size := by simp
    obtain ⟨T, hT⟩ : ∃ T : ByteArray, T = ⟨(afterP tx.data.toList).toArray⟩ := ⟨_, rfl⟩
    rw [← hT] at kC
    have hTl : afterP tx.data.toList = T.data.toList := by rw [hT]
    have hTs : T.size ≤ 1048576 := by rw [hT]; show (afterP tx.data.toList).length ≤ _; omega
    rw [hTl] at hR
    have kH := fun W => Tryz.strings_HasPrefix T ⟨#[45]⟩ W
    have e45 : (⟨#[45]⟩ : ByteArray).data.toList = [45] := rfl
    rw [e45, minus_pre] at kH
    have kP := fun W => parse_any T W hTs
    have hbd := parseD_bd T.data.toList
    clear hT hTl hpl htl e43 e45 hK5
    generalize plusT tx.data.toList = P at *
    generalize minusD T.data.toList = M at *
    generalize parseD T.data.toList = D at *
    obtain ⟨⟨dm, ds⟩, dc, dp⟩ := D
    simp only at hR hbd
    obtain ⟨g, hg⟩ : ∃ g, (K == 2) = g := ⟨_, rfl⟩
    have g2 : ((K : Int) == 2) = g := by rw [← hg]; apply bcl; rw [beq_iff_eq, beq_iff_eq]; omega
    have g3 : ((K : Int) != 2) = !g := by rw [bne, g2]
    rw [hg] at hR
    clear hg
    obtain ⟨n0, hn0⟩ : ∃ b, decide (dm < 0) = b := ⟨_, rfl⟩
    rw [hn0] at hR
    cases hPM : (P && (M || !g))
    case true =>
      rw [hPM, if_pos rfl] at hR
      subst hR
      cases P
      · cases hPM
      cases M <;> cases g
      case true.false.true => cases hPM
      all_goals
        go_wp2_with (first
          | (go_at_call 76; (with_reducible refine (kC _).mono ?_); rintro en w2 ⟨rfl, hw2⟩; rw [hw2]; clear hw2 w2)
          | (go_at_call 77; (with_reducible refine (kH _).mono ?_); rintro en w2 ⟨rfl, hw2⟩; rw [hw2]; clear hw2 w2)
          | (go_at_call 49; (with_reducible refine (kF13 _ h1).mono ?_); rintro en w9 ⟨rfl, h9, hA9⟩))
        go_ret
        exact ⟨rfl, h9, hA1.trans (hA9.mono (by simp))⟩
    case false =>
      rw [hPM, if_neg (by decide)] at hR
      have hN2 : ∀ W, Aw [] W1 W → Rr W r c o l k s av ∧ Ev W e nm0 lv K (0, 0) (0, 0) ⟨#[]⟩ ∧ Blk W w.heap.size 74 #[.int .i64 (K : Int), .string nm, .int .i64 (off : Int), tv, fv, .string tx, .int .i64 (pos : Int), .bool td, .string tm, .int .i64 (wh : Int)] ∧ Aw [r, e] w W := fun W a => ⟨h1.aw a (by simp), hv1.aw a (by simp), Blk.aw hb1 a (by simp), hA1.trans (a.mono (by simp))⟩
      cases hc11 : (dc == 11)
      case true =>
        rw [hc11, if_pos rfl] at hR
        subst hR
        have z11 : ((dc : Int) == 11) = true := by rw [beq_iff_eq] at hc11 ⊢; omega
        clear hc11
        cases P <;> cases M <;> cases g <;> first | (exact absurd hPM (by decide)) | skip
        all_goals
          go_upto_region 9 with (first
                | (go_at_call 76; (with_reducible refine (kC _).mono ?_); rintro en w2 ⟨rfl, hw2⟩; rw [hw2]; clear hw2 w2)
                | (go_at_call 77; (with_reducible refine (kH _).mono ?_); rintro en w2 ⟨rfl, hw2⟩; rw [hw2]; clear hw2 w2)
                | (go_at_call 78; (with_reducible refine (kP _).mono ?_); rintro en w3 ⟨hen, hA3⟩; unfold ParseE at hen; subst hen))
          obtain ⟨hr3, hv3, hb3, hA4⟩ := hN2 _ (hA3.alloc (.cells #[.int .i64 dm, .int .i64 (ds : Int)] 60))
          have hD := Blk.new w3 60 #[.int .i64 dm, .int .i64 (ds : Int)]
          generalize w3.alloc (.cells #[.int .i64 dm, .int .i64 (ds : Int)] 60) = W4 at *
          generalize w3.heap.size = x at *
          have q6 := (Blk.cell hb3 6).trans rfl
          have x0 := (Blk.cell hD 0).trans rfl
          obtain ⟨⟨d0, d1, d2, d3, d4, d5, d6, d7⟩, _⟩ := hv3.facts
          go_wp2_with (go_at_call 49; (with_reducible refine (kF13 _ hr3).mono ?_); rintro en w9 ⟨rfl, h9, hA9⟩)
          go_ret
          exact ⟨rfl, h9, hA4.trans (hA9.mono (by simp))⟩
      case false =>
        rw [hc11, if_neg (by decide)] at hR
        have z11 : ((dc : Int) == 11) = false := by rw [beq_eq_false_iff_ne] at hc11 ⊢; omega
        clear hc11
        cases hc0 : (dc == 0)
        case false =>
          rw [hc0, Bool.not_false, Bool.true_or, if_pos rfl] at hR
          subst hR
          have z0 : ((dc : Int) == 0) = false := by rw [beq_eq_false_iff_ne] at hc0 ⊢; omega
          have z0n : ((dc : Int) != 0) = true := by rw [bne, z0]; rfl
          clear hc0
          cases P <;> cases M <;> cases g <;> first | (exact absurd hPM (by decide)) | skip
          all_goals
            go_upto_region 9 with (first
                  | (go_at_call 76; (with_reducible refine (kC _).mono ?_); rintro en w2 ⟨rfl, hw2⟩; rw [hw2]; clear hw2 w2)
                  | (go_at_call 77; (with_reducible refine (kH _).mono ?_); rintro en w2 ⟨rfl, hw2⟩; rw [hw2]; clear hw2 w2)
                  | (go_at_call 78; (with_reducible refine (kP _).mono ?_); rintro en w3 ⟨hen, hA3⟩; unfold ParseE at hen; subst hen))
            obtain ⟨hr3, hv3, hb3, hA4⟩ := hN2 _ (hA3.alloc (.cells #[.int .i64 dm, .int .i64 (ds : Int)] 60))
            have hD := Blk.new w3 60 #[.int .i64 dm, .int .i64 (ds : Int)]
            generalize w3.alloc (.cells #[.int .i64 dm, .int .i64 (ds : Int)] 60) = W4 at *
            generalize w3.heap.size = x at *
            have q6 := (Blk.cell hb3 6).trans rfl
            have x0 := (Blk.cell hD 0).trans rfl
            obtain ⟨⟨d0, d1, d2, d3, d4, d5, d6, d7⟩, _⟩ := hv3.facts
            go_wp2_with (go_at_call 49; (with_reducible refine (kF12 _ hr3).mono ?_); rintro en w9 ⟨rfl, h9, hA9⟩)
            go_ret
            exact ⟨rfl, h9, hA4.trans (hA9.mono (by simp))⟩
        case true =>
          rw [hc0, Bool.not_true, Bool.false_or] at hR
          have z0 : ((dc : Int) == 0) = true := by rw [beq_iff_eq] at hc0 ⊢; omega
          have z0n : ((dc : Int) != 0) = false := by rw [bne, z0]; rfl
          clear hc0
          cases hng : (n0 && !g)
          case true =>
            rw [hng, if_pos rfl] at hR
            subst hR
            cases P <;> cases M <;> cases g <;> cases n0 <;> first | (exact absurd hPM (by decide)) | (exact absurd hng (by decide)) | skip
            all_goals
              go_upto_region 9 with (first
                    | (go_at_call 76; (with_reducible refine (kC _).mono ?_); rintro en w2 ⟨rfl, hw2⟩; rw [hw2]; clear hw2 w2)
                    | (go_at_call 77; (with_reducible refine (kH _).mono ?_); rintro en w2 ⟨rfl, hw2⟩; rw [hw2]; clear hw2 w2)
                    | (go_at_call 78; (with_reducible refine (kP _).mono ?_); rintro en w3 ⟨hen, hA3⟩; unfold ParseE at hen; subst hen))
              obtain ⟨hr3, hv3, hb3, hA4⟩ := hN2 _ (hA3.alloc (.cells #[.int .i64 dm, .int .i64 (ds : Int)] 60))
              have hD := Blk.new w3 60 #[.int .i64 dm, .int .i64 (ds : Int)]
              generalize w3.alloc (.cells #[.int .i64 dm, .int .i64 (ds : Int)] 60) = W4 at *
              generalize w3.heap.size = x at *
              have q6 := (Blk.cell hb3 6).trans rfl
              have x0 := (Blk.cell hD 0).trans rfl
              obtain ⟨⟨d0, d1, d2, d3, d4, d5, d6, d7⟩, _⟩ := hv3.facts
              go_wp2_with (go_at_call 49; (with_reducible refine (kF12 _ hr3).mono ?_); rintro en w9 ⟨rfl, h9, hA9⟩)
              go_ret
              exact ⟨rfl, h9, hA4.trans (hA9.mono (by simp))⟩
          case false =>
            rw [hng, if_neg (by decide)] at hR
            subst hR
            cases hgk : (g && (P || M))
            case false =>
              cases P <;> cases M <;> cases g <;> cases n0 <;> first | (exact absurd hPM (by decide)) | (exact absurd hng (by decide)) | (exact absurd hgk (by decide)) | skip
              all_goals
                go_upto_region 9 with (first
                  | (go_at_call 76; (with_reducible refine (kC _).mono ?_); rintro en w2 ⟨rfl, hw2⟩; rw [hw2]; clear hw2 w2)
                  | (go_at_call 77; (with_reducible refine (kH _).mono ?_); rintro en w2 ⟨rfl, hw2⟩; rw [hw2]; clear hw2 w2)
                  | (go_at_call 78; (with_reducible refine (kP _).mono ?_); rintro en w3 ⟨hen, hA3⟩; unfold ParseE at hen; subst hen))
                obtain ⟨hr3, hv3, hb3, hA4⟩ := hN2 _ (hA3.alloc (.cells #[.int .i64 dm, .int .i64 (ds : Int)] 60))
                have hD := Blk.new w3 60 #[.int .i64 dm, .int .i64 (ds : Int)]
                have hxe : e < w3.heap.size := Nat.lt_of_lt_of_le (Nat.lt_of_lt_of_le hel hA1.size) hA3.size
                generalize w3.alloc (.cells #[.int .i64 dm, .int .i64 (ds : Int)] 60) = W4 at *
                generalize w3.heap.size = x at *
                have q6 := (Blk.cell hb3 6).trans rfl
                have x0 := (Blk.cell hD 0).trans rfl
                have x1 := (Blk.cell hD 1).trans rfl
                obtain ⟨⟨d0, d1, d2, d3, d4, d5, d6, d7⟩, p1, p2, p3, p4, p5, p6, p7⟩ := hv3.facts
                have hD2 := hD.far (p := ⟨e, 2, none⟩) (by simp; omega) (.int .i64 3)
                have y0 := (Blk.cell hD2 0).trans rfl
                have y1 := (Blk.cell hD2 1).trans rfl
                go_wp2_with fail
                go_ret
                exact ⟨rfl, (hr3.far hre _).far hre _, hv3.val (dm, ds), (hA4.setCell (.inl (by simp)) _).setCell (.inl (by simp)) _⟩
            case true =>
              cases P <;> cases M <;> cases g <;> cases n0 <;> first | (exact absurd hPM (by decide)) | (exact absurd hng (by decide)) | (exact absurd hgk (by decide)) | skip
              all_goals
                go_upto_region 9 with (first
                  | (go_at_call 76; (with_reducible refine (kC _).mono ?_); rintro en w2 ⟨rfl, hw2⟩; rw [hw2]; clear hw2 w2)
                  | (go_at_call 77; (with_reducible refine (kH _).mono ?_); rintro en w2 ⟨rfl, hw2⟩; rw [hw2]; clear hw2 w2)
                  | (go_at_call 78; (with_reducible refine (kP _).mono ?_); rintro en w3 ⟨hen, hA3⟩; unfold ParseE at hen; subst hen))
                obtain ⟨hr3, hv3, hb3, hA4⟩ := hN2 _ (hA3.alloc (.cells #[.int .i64 dm, .int .i64 (ds : Int)] 60))
                have hD := Blk.new w3 60 #[.int .i64 dm, .int .i64 (ds : Int)]
                have hxe : e < w3.heap.size := Nat.lt_of_lt_of_le (Nat.lt_of_lt_of_le hel hA1.size) hA3.size
                generalize w3.alloc (.cells #[.int .i64 dm, .int .i64 (ds : Int)] 60) = W4 at *
                generalize w3.heap.size = x at *
                have q6 := (Blk.cell hb3 6).trans rfl
                have x0 := (Blk.cell hD 0).trans rfl
                have x1 := (Blk.cell hD 1).trans rfl
                obtain ⟨⟨d0, d1, d2, d3, d4, d5, d6, d7⟩, p1, p2, p3, p4, p5, p6, p7⟩ := hv3.facts
                have hD2 := hD.far (p := ⟨e, 2, none⟩) (by simp; omega) (.int .i64 3)
                have y0 := (Blk.cell hD2 0).trans rfl
                have y1 := (Blk.cell hD2 1).trans rfl
                go_wp2_with fail
                go_ret
                exact ⟨rfl, ((hr3.far hre _).far hre _).far hre _, hv3.kind.val (dm, ds), ((hA4.setCell (.inl (by simp)) _).setCell (.inl (by simp)) _).setCell (.inl (by simp)) _⟩
/-- What rate does. -/
def RateP (w0 w : World) (r e : Nat) (c o l k : Int) (s : ByteArray) (av : Value) (nm : ByteArray) (lv : Value) (K : Nat) (v : Int × Nat) (m : ByteArray) : Except (Nat × Nat) (Int × Nat) → Ending → Prop
  | .error x, en => en = .returned (.bool false) ∧ Rf w r x.1 x.2 s av ∧ Aw [r, e] w0 w
  | .ok q, en => en = .returned (.bool true) ∧ Rr w r c o l k s av ∧ Ev w e nm lv K v q m ∧ Aw [r, e] w0 w
/-- What stands while a rate is read: the reader, the event, the row, one, the decimal. -/
structure RS (w0 w : World) (r e x y d : Nat) (c o l k : Int) (s : ByteArray) (av : Value) (nm : ByteArray) (lv : Value) (K : Nat) (v q : Int × Nat) (m : ByteArray) (row : Array Value) (D : Int × Nat) : Prop where
  rr : Rr w r c o l k s av
  ev : Ev w e nm lv K v q m
  rw_ : Blk w x 74 row
  one : Blk w y 60 #[.int .i64 1, .int .i64 0]
  dd : Blk w d 60 #[.int .i64 D.1, .int .i64 (D.2 : Int)]
  aw : Aw [r, e] w0 w
section
variable {w0 w w' : World} {r e x y d : Nat} {c o l k : Int} {s nm : ByteArray} {av lv : Value} {K : Nat} {v q : Int × Nat} {m : ByteArray} {row : Array Value} {D : Int × Nat}
theorem RS.call (h : RS w0 w r e x y d c o l k s av nm lv K v q m row D) (a : Aw [] w w') : RS w0 w' r e x y d c o l k s av nm lv K v q m row D :=
  ⟨h.rr.aw a (by simp), h.ev.aw a (by simp), Blk.aw h.rw_ a (by simp), Blk.aw h.one a (by simp), Blk.aw h.dd a (by simp), h.aw.trans (a.mono (by simp))⟩
theorem RS.alloc (h : RS w0 w r e x y d c o l k s av nm lv K v q m row D) (o' : Obj) : RS w0 (w.alloc o') r e x y d c o l k s av nm lv K v q m row D := h.call ((Aw.refl [] w).alloc o')
theorem RS.drew (h : RS w0 w r e x y d c o l k s av nm lv K v q m row D) : RS w0 w.drew r e x y d c o l k s av nm lv K v q m row D := h.call (Aw.refl [] w).drew
theorem RS.far (h : RS w0 w r e x y d c o l k s av nm lv K v q m row D) (p : Addr) (hp : r < p.block ∧ e < p.block ∧ x < p.block ∧ y < p.block ∧ d < p.block ∧ w0.heap.size ≤ p.block) (u : Value) : RS w0 (w.setCell p u) r e x y d c o l k s av nm lv K v q m row D :=
  ⟨h.rr.far (by omega) u, Blk.far h.ev (by omega) u, Blk.far h.rw_ (by omega) u, Blk.far h.one (by omega) u, Blk.far h.dd (by omega) u, h.aw.setCell (.inr hp.2.2.2.2.2) u⟩
theorem RS.fs (h : RS w0 w r e x y d c o l k s av nm lv K v q m row D) : (w.cell? ⟨e, 3, none⟩ = some (.int .i64 v.1) ∧ w.cell? ⟨e, 4, none⟩ = some (.int .i64 (v.2 : Int)) ∧ w.cell? ⟨d, 0, none⟩ = some (.int .i64 D.1) ∧ w.cell? ⟨d, 1, none⟩ = some (.int .i64 (D.2 : Int))) ∧ RS w0 w r e x y d c o l k s av nm lv K v q m row D :=
  ⟨⟨h.ev.facts.1.2.2.2.1, h.ev.facts.1.2.2.2.2.1, (Blk.cell h.dd 0).trans rfl, (Blk.cell h.dd 1).trans rfl⟩, h⟩
end
set_option maxRecDepth 100000 in
set_option maxHeartbeats 6400000 in
theorem rate_any (r e : Nat) (c o l k : Int) (s : ByteArray) (av : Value) (nm0 : ByteArray) (lv : Value) (K0 : Nat) (v : Int × Nat) (m : ByteArray) (K : Nat) (nm : ByteArray) (off : Nat) (tv fv : Value) (tx : ByteArray) (pos : Nat) (td : Bool) (tm : ByteArray) (wh : Nat) (w : World)
    (h : Rr w r c o l k s av) (hv : Ev w e nm0 lv K0 v (0, 0) m) (hre : r ≠ e) (hs : s.size ≤ 1048576) (hx : tm.size ≤ 1048576) (hv0 : -9223372036854775807 ≤ v.1) (hv1 : v.1 ≤ 9223372036854775807) :
    Calls Tryz.prog 51 #[.pointer (some ⟨r, 0, none⟩), .pointer (some ⟨e, 0, none⟩), .agg #[.int .i64 (K : Int), .string nm, .int .i64 (off : Int), tv, fv, .string tx, .int .i64 (pos : Int), .bool td, .string tm, .int .i64 (wh : Int)]] w fun en w' => RateP w w' r e c o l k s av nm0 lv K0 v m (rateT K td tm wh v) en := by
  have kF12 : ∀ W, Rr W r c o l k s av → Calls Tryz.prog 49 #[.pointer (some ⟨r, 0, none⟩), .int .i64 12, .int .i64 (wh : Int)] W fun e w' => e = .returned (.bool false) ∧ Rf w' r 12 wh s av ∧ Aw [r] W w' := fun W h => fails_any r c o l k s av 12 wh W h hs
  have kF13 : ∀ W, Rr W r c o l k s av → Calls Tryz.prog 49 #[.pointer (some ⟨r, 0, none⟩), .int .i64 13, .int .i64 (wh : Int)] W fun e w' => e = .returned (.bool false) ∧ Rf w' r 13 wh s av ∧ Aw [r] W w' := fun W h => fails_any r c o l k s av 13 wh W h hs
  have hrl := Blk.lt h
  have hel := Blk.lt hv
  obtain ⟨row, hrow⟩ : ∃ row : Array Value, row = #[.int .i64 (K : Int), .string nm, .int .i64 (off : Int), tv, fv, .string tx, .int .i64 (pos : Int), .bool td, .string tm, .int .i64 (wh : Int)] := ⟨_, rfl⟩
  have hb1 := Blk.new w 74 #[.int .i64 (K : Int), .string nm, .int .i64 (off : Int), tv, fv, .string tx, .int .i64 (pos : Int), .bool td, .string tm, .int .i64 (wh : Int)]
  have hy := Blk.new (w.alloc (.cells #[.int .i64 (K : Int), .string nm, .int .i64 (off : Int), tv, fv, .string tx, .int .i64 (pos : Int), .bool td, .string tm, .int .i64 (wh : Int)] 74)) 60 #[.int .i64 1, .int .i64 0]
  have hz : (w.alloc (.cells #[.int .i64 (K : Int), .string nm, .int .i64 (off : Int), tv, fv, .string tx, .int .i64 (pos : Int), .bool td, .string tm, .int .i64 (wh : Int)] 74)).heap.size = w.heap.size + 1 := by simp
  rw [hz] at hy
  have hA1 := ((Aw.refl [] w).alloc (.cells #[.int .i64 (K : Int), .string nm, .int .i64 (off : Int), tv, fv, .string tx, .int .i64 (pos : Int), .bool td, .string tm, .int .i64 (wh : Int)] 74)).alloc (.cells #[.int .i64 1, .int .i64 0] 60)
  have h1 := h.aw hA1 (by simp)
  have hv1' := hv.aw hA1 (by simp)
  have hb1' := Blk.alloc hb1 (.cells #[.int .i64 1, .int .i64 0] 60)
  clear hz hb1
  obtain ⟨k1, hk1⟩ : ∃ b, (K == 1) = b := ⟨_, rfl⟩
  obtain ⟨k4, hk4⟩ : ∃ b, (K == 4) = b := ⟨_, rfl⟩
  have z1 : ((K : Int) == 1) = k1 := by rw [← hk1]; apply bcl; rw [beq_iff_eq, beq_iff_eq]; omega
  have z4 : ((K : Int) == 4) = k4 := by rw [← hk4]; apply bcl; rw [beq_iff_eq, beq_iff_eq]; omega
  obtain ⟨R, hR⟩ : ∃ R, rateT K td tm wh v = R := ⟨_, rfl⟩
  rw [hR]
  unfold rateT at hR
  rw [hk1, hk4] at hR
  clear hk1 hk4
  go_enter Tryz.func51, Tryz.ntmps51
  go_upto_region 2 with (fail)
  generalize (w.alloc (.cells #[.int .i64 (K : Int), .string nm, .int .i64 (off : Int), tv, fv, .string tx, .int .i64 (pos : Int), .bool td, .string tm, .int .i64 (wh : Int)] 74)).alloc (.cells #[.int .i64 1, .int .i64 0] 60) = W1 at *
  have r0 := (Blk.cell hb1' 0).trans rfl
  have r7 := (Blk.cell hb1' 7).trans rfl
  have r8 := (Blk.cell hb1' 8).trans rfl
  have r9 := (Blk.cell hb1' 9).trans rfl
  have y0 := (Blk.cell hy 0).trans rfl
  have y1 := (Blk.cell hy 1).trans rfl
  obtain ⟨⟨c0, c1, c2, c3, c4, c5, c6, c7⟩, f1, f2, f3, f4, f5, f6, f7⟩ := hv1'.facts
  have hA1' := hA1.mono (S' := [r, e]) (by simp)
  cases td
  case false =>
    rw [Bool.not_false, if_pos rfl] at hR
    subst hR
    cases k1 <;> cases k4
    all_goals
      go_wp2_with fail
      go_ret
    · exact ⟨rfl, h1, hv1', hA1'⟩
    all_goals exact ⟨rfl, (h1.far hre _).far hre _, hv1'.rate (1, 0), (hA1'.setCell (.inl (by simp)) _).setCell (.inl (by simp)) _⟩
  case true =>
    rw [Bool.not_true, if_neg (by decide)] at hR
    cases hkk : (k1 || k4)
    case false =>
      rw [hkk, Bool.not_false, if_pos rfl] at hR
      subst hR
      cases k1 <;> cases k4 <;> first | (exact absurd hkk (by decide)) | skip
      go_wp2_with (go_at_call 49; (with_reducible refine (kF13 _ h1).mono ?_); rintro en w9 ⟨rfl, h9, hA9⟩)
      go_ret
      exact ⟨rfl, h9, hA1'.trans (hA9.mono (by simp))⟩
    case true =>
      rw [hkk, Bool.not_true, if_neg (by decide)] at hR
      have kP := fun W => parse_any tm W hx
      have hbd := parseD_bd tm.data.toList
      generalize parseD tm.data.toList = D at *
      obtain ⟨⟨dm, ds⟩, dc, dp⟩ := D
      simp only at hR hbd
      have kO1 := fun W => over_any v.1 v.2 dm ds (by omega) (by omega) (by omega) (by omega) W
      have kO2 : ∀ W, Calls Tryz.prog 79 #[.agg #[.int .i64 1, .int .i64 0], .agg #[.int .i64 dm, .int .i64 (ds : Int)]] W fun e w' => DecE (overN 1 0 dm ds) e ∧ Aw [] W w' := fun W => over_any 1 0 dm ds (by decide) (by decide) (by omega) (by omega) W
      have kM : ∀ W, Calls Tryz.prog 80 #[.agg #[.int .i64 dm, .int .i64 (ds : Int)], .agg #[.int .i64 1, .int .i64 0]] W fun e w' => e = .returned (.int .i64 (cmpD dm ds 1 0)) ∧ Aw [] W w' := fun W => scompare_any dm ds 1 0 (by omega) (by omega) (by decide) (by decide) W
      generalize overN v.1 v.2 dm ds = O1 at *
      generalize overN 1 0 dm ds = O2 at *
      generalize cmpD dm ds 1 0 = cm at *
      obtain ⟨⟨o1m, o1s⟩, o1⟩ := O1
      obtain ⟨⟨o2m, o2s⟩, o2⟩ := O2
      simp only at hR
      unfold DecE at kO1 kO2
      simp only at kO1 kO2
      have hWl := Blk.lt hy
      cases k1 <;> cases k4 <;> first | (exact absurd hkk (by decide)) | skip
      all_goals
        go_upto_region 11 with (go_at_call 78; (with_reducible refine (kP _).mono ?_); rintro en w3 ⟨hen, hA3⟩; unfold ParseE at hen; subst hen)
        have hA4 := hA3.alloc (.cells #[.int .i64 dm, .int .i64 (ds : Int)] 60)
        have hD := Blk.new w3 60 #[.int .i64 dm, .int .i64 (ds : Int)]
        have hxe := hA3.size
        generalize w3.alloc (.cells #[.int .i64 dm, .int .i64 (ds : Int)] 60) = W4 at *
        generalize w3.heap.size = x at *
        have hX : RS w W4 r e w.heap.size (w.heap.size + 1) x c o l k s av nm0 lv K0 v (0, 0) m #[.int .i64 (K : Int), .string nm, .int .i64 (off : Int), tv, fv, .string tx, .int .i64 (pos : Int), .bool true, .string tm, .int .i64 (wh : Int)] (dm, ds) := ⟨h1.aw hA4 (by simp), hv1'.aw hA4 (by simp), Blk.aw hb1' hA4 (by simp), Blk.aw hy hA4 (by simp), hD, hA1'.trans (hA4.mono (by simp))⟩
        have hlt : r < W4.heap.size ∧ e < W4.heap.size ∧ w.heap.size < W4.heap.size ∧ w.heap.size + 1 < W4.heap.size ∧ x < W4.heap.size ∧ w.heap.size ≤ W4.heap.size := by have := Blk.lt hX.dd; have := Blk.lt hX.one; omega
        clear hD hA4 hA3 c0 c1 c2 c3 c4 c5 c6 c7 f1 f2 f3 f4 f5 f6 f7 r0 r7 r8 r9 y0 y1
        go_region_held3 (fun w' => (w'.cell? ⟨e, 3, none⟩ = some (.int .i64 v.1) ∧ w'.cell? ⟨e, 4, none⟩ = some (.int .i64 (v.2 : Int)) ∧ w'.cell? ⟨x, 0, none⟩ = some (.int .i64 dm) ∧ w'.cell? ⟨x, 1, none⟩ = some (.int .i64 (ds : Int))) ∧ RS w w' r e w.heap.size (w.heap.size + 1) x c o l k s av nm0 lv K0 v (0, 0) m #[.int .i64 (K : Int), .string nm, .int .i64 (off : Int), tv, fv, .string tx, .int .i64 (pos : Int), .bool true, .string tm, .int .i64 (wh : Int)] (dm, ds)) (first | (with_reducible assumption) | (with_reducible exact hX.drew.fs) | (with_reducible exact (hX.alloc (.cells #[.int .i64 0, .int .i64 0] 60)).drew.fs)) (first
          | (go_at_call 79; (with_reducible refine (kO1 _).mono ?_); rintro en w5 ⟨rfl, hA5⟩; have hX5 := (RS.call (And.right (by with_reducible assumption)) hA5); have S5 := hX5.fs; have T5 := (hX5.alloc (.cells #[.int .i64 0, .int .i64 0] 60)).fs; have U5 := (hX5.alloc (.cells #[.int .i64 o1m, .int .i64 (o1s : Int)] 60)).fs; have V5 := ((hX5.far ⟨W4.heap.size, 0, none⟩ hlt (.int .i64 o1m)).far ⟨W4.heap.size, 1, none⟩ hlt (.int .i64 (o1s : Int))).fs; (try (have hN5 : Blk w5 W4.heap.size 60 #[.int .i64 0, .int .i64 0] := Blk.aw (Blk.drew (Blk.new W4 _ _)) hA5 (by simp); have n0 := (Blk.cell hN5 0).trans rfl; have n1 := (Blk.cell hN5 1).trans rfl; have p0 := Blk.frozen hN5 0; have p1 := Blk.frozen hN5 1))))
        all_goals
          rename_i hHeld
          obtain ⟨_, hY⟩ := hHeld
          first
            | (generalize w5.alloc _ = W6 at *)
            | (generalize World.setCell (World.setCell w5 _ _) _ _ = W6 at *)
          have y0 := (Blk.cell hY.one 0).trans rfl
          have y1 := (Blk.cell hY.one 1).trans rfl
          have x0 := (Blk.cell hY.dd 0).trans rfl
          have x1 := (Blk.cell hY.dd 1).trans rfl
          go_upto_region 13 with (go_at_call 79; (with_reducible refine (kO2 _).mono ?_); rintro en w6 ⟨rfl, hA6⟩; have hY6 := (hY.call hA6).alloc (.cells #[.int .i64 o2m, .int .i64 (o2s : Int)] 60))
          generalize w6.alloc _ = W7 at *
          have y0' := (Blk.cell hY6.one 0).trans rfl
          have y1' := (Blk.cell hY6.one 1).trans rfl
          have x0' := (Blk.cell hY6.dd 0).trans rfl
          have x1' := (Blk.cell hY6.dd 1).trans rfl
          have r0' := (Blk.cell hY6.rw_ 0).trans rfl
          have r9' := (Blk.cell hY6.rw_ 9).trans rfl
          clear hA6 y0 y1 x0 x1
          cases hc0 : (dc == 0)
          case false =>
            have z0 : ((dc : Int) == 0) = false := by rw [beq_eq_false_iff_ne] at hc0 ⊢; omega
            have z0n : ((dc : Int) != 0) = true := by rw [bne, z0]; rfl
            rw [hc0, Bool.not_false, Bool.true_or, if_pos rfl] at hR
            subst hR
            clear hc0
            go_wp2_with (first
              | (go_at_call 80; (with_reducible refine (kM _).mono ?_); rintro en w7 ⟨rfl, hA7⟩; have hY7 := hY6.call hA7; have t0 := (Blk.cell hY7.rw_ 0).trans rfl; have t9 := (Blk.cell hY7.rw_ 9).trans rfl)
              | (go_at_call 49; (first | (with_reducible refine (kF12 _ hY7.rr).mono ?_) | (with_reducible refine (kF12 _ hY6.rr).mono ?_)); rintro en w9 ⟨rfl, h9, hA9⟩))
            go_ret
            exact ⟨rfl, h9, hY6.aw.trans (hA9.mono (by simp))⟩
          case true =>
            have z0 : ((dc : Int) == 0) = true := by rw [beq_iff_eq] at hc0 ⊢; omega
            have z0n : ((dc : Int) != 0) = false := by rw [bne, z0]; rfl
            rw [hc0, Bool.not_true, Bool.false_or] at hR
            clear hc0
            cases hb1 : decide (dm ≤ 0)
            case true =>
              rw [hb1, Bool.true_or, if_pos rfl] at hR
              subst hR
              go_wp2_with (first
                | (go_at_call 80; (with_reducible refine (kM _).mono ?_); rintro en w7 ⟨rfl, hA7⟩; have hY7 := hY6.call hA7; have t0 := (Blk.cell hY7.rw_ 0).trans rfl; have t9 := (Blk.cell hY7.rw_ 9).trans rfl)
                | (go_at_call 49; (first | (with_reducible refine (kF12 _ hY7.rr).mono ?_) | (with_reducible refine (kF12 _ hY6.rr).mono ?_)); rintro en w9 ⟨rfl, h9, hA9⟩))
              go_ret
              exact ⟨rfl, h9, hY6.aw.trans (hA9.mono (by simp))⟩
            case false =>
              rw [hb1, Bool.false_or] at hR
              cases hb2 : decide (0 < cm)
              case true =>
                rw [hb2, Bool.true_or, if_pos rfl] at hR
                subst hR
                go_wp2_with (first
                  | (go_at_call 80; (with_reducible refine (kM _).mono ?_); rintro en w7 ⟨rfl, hA7⟩; have hY7 := hY6.call hA7; have t0 := (Blk.cell hY7.rw_ 0).trans rfl; have t9 := (Blk.cell hY7.rw_ 9).trans rfl)
                  | (go_at_call 49; (first | (with_reducible refine (kF12 _ hY7.rr).mono ?_) | (with_reducible refine (kF12 _ hY6.rr).mono ?_)); rintro en w9 ⟨rfl, h9, hA9⟩))
                go_ret
                exact ⟨rfl, h9, hY7.aw.trans (hA9.mono (by simp))⟩
              case false =>
                rw [hb2, Bool.false_or] at hR
                cases o1
                case false =>
                  rw [Bool.not_false, Bool.true_or, if_pos rfl] at hR
                  subst hR
                  go_wp2_with (first
                    | (go_at_call 80; (with_reducible refine (kM _).mono ?_); rintro en w7 ⟨rfl, hA7⟩; have hY7 := hY6.call hA7; have t0 := (Blk.cell hY7.rw_ 0).trans rfl; have t9 := (Blk.cell hY7.rw_ 9).trans rfl)
                    | (go_at_call 49; (first | (with_reducible refine (kF12 _ hY7.rr).mono ?_) | (with_reducible refine (kF12 _ hY6.rr).mono ?_)); rintro en w9 ⟨rfl, h9, hA9⟩))
                  go_ret
                  exact ⟨rfl, h9, hY7.aw.trans (hA9.mono (by simp))⟩
                case true =>
                  cases o2
                  case false =>
                    first
                      | (rw [Bool.not_true, Bool.false_or, Bool.not_false, Bool.and_true, if_pos rfl] at hR
                         subst hR
                         go_wp2_with (first
                           | (go_at_call 80; (with_reducible refine (kM _).mono ?_); rintro en w7 ⟨rfl, hA7⟩; have hY7 := hY6.call hA7; have t0 := (Blk.cell hY7.rw_ 0).trans rfl; have t9 := (Blk.cell hY7.rw_ 9).trans rfl)
                           | (go_at_call 49; (first | (with_reducible refine (kF12 _ hY7.rr).mono ?_) | (with_reducible refine (kF12 _ hY6.rr).mono ?_)); rintro en w9 ⟨rfl, h9, hA9⟩))
                         go_ret
                         exact ⟨rfl, h9, hY7.aw.trans (hA9.mono (by simp))⟩)
                      | (rw [Bool.not_true, Bool.false_or, Bool.not_false, Bool.and_false, if_neg (by decide)] at hR
                         subst hR
                         go_wp2_with (first
                           | (go_at_call 80; (with_reducible refine (kM _).mono ?_); rintro en w7 ⟨rfl, hA7⟩; have hY7 := hY6.call hA7; have t0 := (Blk.cell hY7.rw_ 0).trans rfl; have t9 := (Blk.cell hY7.rw_ 9).trans rfl; have v0 := (Blk.cell hY7.dd 0).trans rfl; have v1 := (Blk.cell hY7.dd 1).trans rfl; obtain ⟨⟨c0, c1, c2, c3, c4, c5, c6, c7⟩, f1, f2, f3, f4, f5, f6, f7⟩ := hY7.ev.facts))
                         go_ret
                         exact ⟨rfl, (hY7.rr.far hre _).far hre _, hY7.ev.rate (dm, ds), (hY7.aw.setCell (.inl (by simp)) _).setCell (.inl (by simp)) _⟩)
                  case true =>
                    rw [Bool.not_true, Bool.false_or, Bool.false_and, if_neg (by decide)] at hR
                    subst hR
                    go_wp2_with (first
                      | (go_at_call 80; (with_reducible refine (kM _).mono ?_); rintro en w7 ⟨rfl, hA7⟩; have hY7 := hY6.call hA7; have t0 := (Blk.cell hY7.rw_ 0).trans rfl; have t9 := (Blk.cell hY7.rw_ 9).trans rfl; have v0 := (Blk.cell hY7.dd 0).trans rfl; have v1 := (Blk.cell hY7.dd 1).trans rfl; obtain ⟨⟨c0, c1, c2, c3, c4, c5, c6, c7⟩, f1, f2, f3, f4, f5, f6, f7⟩ := hY7.ev.facts))
                    go_ret
                    exact ⟨rfl, (hY7.rr.far hre _).far hre _, hY7.ev.rate (dm, ds), (hY7.aw.setCell (.inl (by simp)) _).setCell (.inl (by simp)) _⟩
end Go.Proofs.YtpknjngjkdnpiaaGreatDoor
