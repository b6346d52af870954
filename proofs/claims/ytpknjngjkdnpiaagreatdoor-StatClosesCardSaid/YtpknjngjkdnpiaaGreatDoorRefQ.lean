/- The reference's scanner: a decimal; a row under way. -/
import Derived.Test.YtpknjngjkdnpiaaGreatDoorRefC
import Derived.Test.YtpknjngjkdnpiaaGreatDoorRunC
import Derived.Test.YtpknjngjkdnpiaaGreatDoorRowsK
import Derived.Deep.RegionLaw
namespace Go.Proofs.YtpknjngjkdnpiaaGreatDoor
set_option linter.unusedVariables false
set_option linter.unusedSimpArgs false
open Go.RowKit
theorem isB_nx {l : List UInt8} {a : Nat} {c : Int} (hc : c ≠ 0) : isB l a false c = (bt l a == c) := by
  unfold isB pkB
  by_cases h : a < l.length
  · simp [h]
  · rw [bt_end (by omega)]
    simp [h]
    exact fun e => hc e.symm
theorem nx_lt {l : List UInt8} {p n : Nat} {c : Int} (hl : l.length = n) (hc : c ≠ 0) (h : bt l p = c) : p < n := by
  rcases Nat.lt_or_ge p n with h' | h'
  · exact h'
  · rw [bt_end (by omega)] at h; exact absurd h.symm hc
set_option maxRecDepth 100000 in
set_option maxHeartbeats 6400000 in
theorem number_dec (g : Nat) (s : ByteArray) (a : Nat) (no : Bool) (b' : Nat) (n' : Bool) (w : World) (h : Sr w g s a no) (ha : a ≤ s.size) (hs : s.size ≤ 1048576) (hR : decS s.data.toList a no = (b', n')) :
    Calls Tryz.prog 43 #[.pointer (some ⟨g, 0, none⟩), .bool false] w fun e w' => e = .returned (.string (mkS (cutL s.data.toList a b'))) ∧ Sr w' g s b' n' ∧ Aw [g] w w' := by
  have hL : s.data.toList.length = s.size := by simp
  obtain ⟨⟨c0, c1, c2⟩, f1, f2⟩ := h.facts
  cases no
  case true =>
    obtain ⟨rfl, rfl⟩ : a = b' ∧ true = n' := by unfold decS numS at hR; simp at hR; exact ⟨hR.1, hR.2.symm⟩
    have h0 : mkS (cutL s.data.toList a a) = ⟨#[]⟩ := by unfold cutL; simp [mkS]
    rw [h0]
    clear h0 hR hL
    go_enter Tryz.func43, Tryz.ntmps43
    go_wp2_with fail
    go_ret
    exact ⟨rfl, h, Aw.refl _ _⟩
  case false =>
    have hs2 : s.size ≤ 4611686018427387904 := Nat.le_trans hs (by decide)
    obtain ⟨a0, ha0⟩ : ∃ a0, takeA s.data.toList a false 45 = a0 := ⟨_, rfl⟩
    obtain ⟨p1, m1, h1⟩ : ∃ p1 m1, someS s.data.toList digB a0 false = (p1, m1) := ⟨_, _, rfl⟩
    have hn : numS s.data.toList a false = (p1, m1) := by unfold numS; simp [ha0, h1]
    unfold decS at hR
    rw [hn] at hR
    have hle := takeA_le s.data.toList a false 45 (by rw [hL]; exact ha)
    rw [ha0] at hle
    have hl1 := someS_le s.data.toList digB a0 false hle.2
    rw [h1] at hl1
    rw [hL] at hle hl1
    simp only at hl1 hR
    have hi0 : (0 : Int) ≤ a := by omega
    have kN := fun W h => next_any g s a false W h hs2 ha
    have kR := fun W h => run_dig g s a0 false p1 m1 W h hle.2 hs h1
    have kN2 := fun W h => next_any g s p1 m1 W h hs2 hl1.2
    have hq : (bt s.data.toList a == 45) = isB s.data.toList a false 45 := (isB_nx (by decide)).symm
    unfold takeA at ha0
    rw [← ext_cut]
    cases m1
    case true =>
      simp only [if_true] at hR
      obtain ⟨rfl, rfl⟩ : p1 = b' ∧ true = n' := by injection hR with e1 e2; exact ⟨e1, e2⟩
      have hi1 : (a : Int) ≤ p1 := by omega
      have hi2 : (p1 : Int) ≤ s.size := by omega
      cases hb : isB s.data.toList a false 45
      all_goals
        rw [hb] at hq ha0
        simp only [Bool.false_eq_true, if_false, if_true] at ha0
        subst ha0
        clear hR hb hL h1 hn kN2
        generalize bt s.data.toList a = c at kN hq
        go_enter Tryz.func43, Tryz.ntmps43
        go_wp2_with (first
          | (go_at_call 42; (with_reducible refine (kN _ h).mono ?_); rintro e w1 ⟨rfl, q1, rfl⟩; have L1 := h.drewN q1; have A1 := (Aw.refl [g] w).drewN q1)
          | (go_at_call 40; (first | (with_reducible refine (kR _ L1).mono ?_) | refine (kR _ L1.at1).mono ?_); rintro e w2 ⟨rfl, h2, hA2⟩; obtain ⟨⟨d0, d1, d2⟩, g1, g2⟩ := h2.facts))
        all_goals
          go_quiet (fail)
          go_wp2_with fail
          go_ret
          first
          | exact ⟨rfl, h2.drewN _, (A1.trans hA2).drewN _⟩
          | exact ⟨rfl, h2.drewN _, ((A1.setCell (.inl (by simp)) _).trans hA2).drewN _⟩
    case false =>
      simp only [Bool.false_eq_true, if_false] at hR
      rw [isB_nx (by decide)] at hR
      have hlt := nx_lt (p := p1) hL (show (46 : Int) ≠ 0 by decide)
      cases hq2 : (bt s.data.toList p1 == 46)
      case false =>
        simp only [hq2, Bool.false_eq_true, if_false] at hR
        obtain ⟨rfl, rfl⟩ : p1 = b' ∧ false = n' := by injection hR with e1 e2; exact ⟨e1, e2⟩
        have hi1 : (a : Int) ≤ p1 := by omega
        have hi2 : (p1 : Int) ≤ s.size := by omega
        clear hlt
        generalize bt s.data.toList p1 = c2 at kN2 hq2
        cases hb : isB s.data.toList a false 45
        all_goals
          rw [hb] at hq ha0
          simp only [Bool.false_eq_true, if_false, if_true] at ha0
          subst ha0
          clear hR hb hL h1 hn
          generalize bt s.data.toList a = c at kN hq
          go_enter Tryz.func43, Tryz.ntmps43
          go_wp2_with (first
            | (go_at_call 42; (with_reducible refine (kN _ h).mono ?_); rintro e w1 ⟨rfl, q1, rfl⟩; have L1 := h.drewN q1; have A1 := (Aw.refl [g] w).drewN q1)
            | (go_at_call 40; (first | (with_reducible refine (kR _ L1).mono ?_) | refine (kR _ L1.at1).mono ?_); rintro e w2 ⟨rfl, h2, hA2⟩; obtain ⟨⟨d0, d1, d2⟩, g1, g2⟩ := h2.facts)
            | (go_at_call 42; (with_reducible refine (kN2 _ h2).mono ?_); rintro e w3 ⟨rfl, q3, rfl⟩; have L3 := h2.drewN q3))
          all_goals
            go_quiet (fail)
            go_wp2_with fail
            go_ret
            first
            | exact ⟨rfl, L3.drewN _, ((A1.trans hA2).drewN _).drewN _⟩
            | exact ⟨rfl, L3.drewN _, (((A1.setCell (.inl (by simp)) _).trans hA2).drewN _).drewN _⟩
      case true =>
        have hlt := hlt (by simpa using hq2)
        simp only [hq2, if_true] at hR
        have hl2 := someS_le s.data.toList digB (p1 + 1) false (by rw [hL]; omega)
        rw [hR, hL] at hl2
        simp only at hl2
        have kR2 := fun W h => run_dig g s (p1 + 1) false b' n' W h hlt hs hR
        have hi1 : (a : Int) ≤ b' := by omega
        have hi2 : (b' : Int) ≤ s.size := by omega
        generalize bt s.data.toList p1 = c2 at kN2 hq2
        cases hb : isB s.data.toList a false 45
        all_goals
          rw [hb] at hq ha0
          simp only [Bool.false_eq_true, if_false, if_true] at ha0
          subst ha0
          clear hR hb hL h1 hn
          generalize bt s.data.toList a = c at kN hq
          go_enter Tryz.func43, Tryz.ntmps43
          go_wp2_with (first
            | (go_at_call 42; (with_reducible refine (kN _ h).mono ?_); rintro e w1 ⟨rfl, q1, rfl⟩; have L1 := h.drewN q1; have A1 := (Aw.refl [g] w).drewN q1)
            | (go_at_call 40; (first | (with_reducible refine (kR _ L1).mono ?_) | refine (kR _ L1.at1).mono ?_); rintro e w2 ⟨rfl, h2, hA2⟩; obtain ⟨⟨d0, d1, d2⟩, g1, g2⟩ := h2.facts)
            | (go_at_call 42; (with_reducible refine (kN2 _ h2).mono ?_); rintro e w3 ⟨rfl, q3, rfl⟩; have L3 := h2.drewN q3; obtain ⟨⟨t0, t1, t2⟩, j1, j2⟩ := L3.facts)
            | (go_at_call 40; refine (kR2 _ L3.at1).mono ?_; rintro e w4 ⟨rfl, h4, hA4⟩; obtain ⟨⟨u0, u1, u2⟩, v1, v2⟩ := h4.facts))
          all_goals
            go_quiet (fail)
            go_wp2_with fail
            go_ret
            first
            | exact ⟨rfl, h4.drewN _, ((((A1.trans hA2).drewN _).setCell (.inl (by simp)) _).trans hA4).drewN _⟩
            | exact ⟨rfl, h4.drewN _, (((((A1.setCell (.inl (by simp)) _).trans hA2).drewN _).setCell (.inl (by simp)) _).trans hA4).drewN _⟩
/-- The reference's scanner, the row under way, its tags. -/
structure QX (w0 w : World) (g x : Nat) (s : ByteArray) (a : Nat) (no : Bool) (K : Nat) (nm : ByteArray) (off : Nat) (tv : Value) (tags : List MTag) (text : ByteArray) (pos : Nat) (timed : Bool) (time : ByteArray) (wh : Nat) : Prop where
  sr : Sr w g s a no
  rw_ : Rw w x K nm off tv text pos timed time wh
  tg : w.ownsRow w0.heap.size 78 4 tv tags.length (tags.flatMap tagCell)
  gl : g < w0.heap.size
  xl : w0.heap.size ≤ x
  aw : Aw [g] w0 w
section
variable {w0 w w' : World} {g x K : Nat} {s : ByteArray} {a a' : Nat} {no no' : Bool} {nm : ByteArray} {off : Nat} {tv tv' : Value} {tags : List MTag} {text : ByteArray} {pos : Nat} {timed : Bool} {time : ByteArray} {wh : Nat}
theorem QX.scan (h : QX w0 w g x s a no K nm off tv tags text pos timed time wh) (hs : Sr w' g s a' no') (k : Aw [g] w w') : QX w0 w' g x s a' no' K nm off tv tags text pos timed time wh :=
  ⟨hs, Blk.aw h.rw_ k (by have := h.gl; have := h.xl; simp; omega), own_aw h.tg k (fun i hi e => by have := h.gl; have := (h.tg.lt i hi).1; simp at e; omega), h.gl, h.xl, h.aw.trans k⟩
theorem QX.at1 (h : QX w0 w g x s a no K nm off tv tags text pos timed time wh) : QX w0 (w.setCell ⟨g, 1, none⟩ (.int .i64 ((a : Int) + 1))) g x s (a + 1) no K nm off tv tags text pos timed time wh :=
  h.scan h.sr.at1 ((Aw.refl _ _).setCell (.inl (by simp)) _)
theorem QX.fell (h : QX w0 w g x s a no K nm off tv tags text pos timed time wh) (b : Bool) : QX w0 (w.setCell ⟨g, 2, none⟩ (.bool b)) g x s a b K nm off tv tags text pos timed time wh :=
  h.scan (h.sr.no1 b) ((Aw.refl _ _).setCell (.inl (by simp)) _)
theorem QX.drewN (h : QX w0 w g x s a no K nm off tv tags text pos timed time wh) (n : Nat) : QX w0 (w.drewN n) g x s a no K nm off tv tags text pos timed time wh :=
  h.scan (h.sr.drewN n) ((Aw.refl _ _).drewN n)
theorem QX.drew (h : QX w0 w g x s a no K nm off tv tags text pos timed time wh) : QX w0 w.drew g x s a no K nm off tv tags text pos timed time wh :=
  h.scan h.sr.drew (Aw.refl _ _).drew
/-- Behind anything that turns blocks of the call's own that are none of these. -/
theorem QX.own {S : List Nat} (h : QX w0 w g x s a no K nm off tv tags text pos timed time wh) (k : Aw S w w') (hS : ∀ i, i ∈ S → w0.heap.size ≤ i ∧ i ≠ x ∧ tv.ownBlock ≠ some i) : QX w0 w' g x s a no K nm off tv tags text pos timed time wh :=
  ⟨h.sr.aw k (fun e => by have := h.gl; have := (hS _ e).1; omega), Blk.aw h.rw_ k (fun e => (hS _ e).2.1 rfl), own_aw h.tg k (fun i hi e => (hS _ e).2.2 hi), h.gl, h.xl, h.aw.own k (fun i hi => .inr (hS i hi).1)⟩
theorem QX.alloc (h : QX w0 w g x s a no K nm off tv tags text pos timed time wh) (o : Obj) : QX w0 (w.alloc o) g x s a no K nm off tv tags text pos timed time wh :=
  h.own (S := []) ((Aw.refl _ _).alloc o) (by simp)
/-- A cell of the row under way is written. -/
theorem QX.put {K' : Nat} {nm' : ByteArray} {off' : Nat} {text' : ByteArray} {pos' : Nat} {timed' : Bool} {time' : ByteArray} {wh' : Nat} (h : QX w0 w g x s a no K nm off tv tags text pos timed time wh) (i : Nat) (u : Value) (hu : Rw (w.setCell ⟨x, i, none⟩ u) x K' nm' off' tv text' pos' timed' time' wh') : QX w0 (w.setCell ⟨x, i, none⟩ u) g x s a no K' nm' off' tv tags text' pos' timed' time' wh' := by
  have hg := h.gl
  have hx := h.xl
  have k : Aw [x] w (w.setCell ⟨x, i, none⟩ u) := (Aw.refl _ _).setCell (.inl (by simp)) u
  exact ⟨h.sr.aw k (by simp; omega), hu, own_aw h.tg k (fun j hj e => by
      simp only [List.mem_cons, List.not_mem_nil, or_false] at e
      subst e; exact own_blk_ne h.tg h.rw_ (by decide) hj), h.gl, h.xl, h.aw.setCell (.inr hx) u⟩
theorem QX.name (h : QX w0 w g x s a no K nm off tv tags text pos timed time wh) (v : ByteArray) : QX w0 (w.setCell ⟨x, 1, none⟩ (.string v)) g x s a no K v off tv tags text pos timed time wh := h.put 1 _ (Blk.set_ h.rw_ 1 (.string v))
theorem QX.off_ (h : QX w0 w g x s a no K nm off tv tags text pos timed time wh) (v : Nat) : QX w0 (w.setCell ⟨x, 2, none⟩ (.int .i64 (v : Int))) g x s a no K nm v tv tags text pos timed time wh := h.put 2 _ (Blk.set_ h.rw_ 2 (.int .i64 (v : Int)))
theorem QX.text_ (h : QX w0 w g x s a no K nm off tv tags text pos timed time wh) (v : ByteArray) : QX w0 (w.setCell ⟨x, 5, none⟩ (.string v)) g x s a no K nm off tv tags v pos timed time wh := h.put 5 _ (Blk.set_ h.rw_ 5 (.string v))
theorem QX.pos_ (h : QX w0 w g x s a no K nm off tv tags text pos timed time wh) (v : Nat) : QX w0 (w.setCell ⟨x, 6, none⟩ (.int .i64 (v : Int))) g x s a no K nm off tv tags text v timed time wh := h.put 6 _ (Blk.set_ h.rw_ 6 (.int .i64 (v : Int)))
theorem QX.timed_ (h : QX w0 w g x s a no K nm off tv tags text pos timed time wh) (v : Bool) : QX w0 (w.setCell ⟨x, 7, none⟩ (.bool v)) g x s a no K nm off tv tags text pos v time wh := h.put 7 _ (Blk.set_ h.rw_ 7 (.bool v))
theorem QX.time_ (h : QX w0 w g x s a no K nm off tv tags text pos timed time wh) (v : ByteArray) : QX w0 (w.setCell ⟨x, 8, none⟩ (.string v)) g x s a no K nm off tv tags text pos timed v wh := h.put 8 _ (Blk.set_ h.rw_ 8 (.string v))
theorem QX.when_ (h : QX w0 w g x s a no K nm off tv tags text pos timed time wh) (v : Nat) : QX w0 (w.setCell ⟨x, 9, none⟩ (.int .i64 (v : Int))) g x s a no K nm off tv tags text pos timed time v := h.put 9 _ (Blk.set_ h.rw_ 9 (.int .i64 (v : Int)))
theorem QX.kind_ (h : QX w0 w g x s a no K nm off tv tags text pos timed time wh) (v : Nat) {u : Value} (hu : u = .int .i64 (v : Int)) : QX w0 (w.setCell ⟨x, 0, none⟩ u) g x s a no v nm off tv tags text pos timed time wh := by
  rw [hu]; exact h.put 0 _ (Blk.set_ h.rw_ 0 (.int .i64 (v : Int)))
/-- One more tag is put to those of the row. -/
theorem QX.tags_ (h : QX w0 w g x s a no K nm off tv tags text pos timed time wh) (k : Aw tv.ownBlock.toList w w') {t : MTag} (ho : w'.ownsRow w0.heap.size 78 4 tv' (tags.length + 1) (tags.flatMap tagCell ++ tagCell t)) : QX w0 (w'.setCell ⟨x, 3, none⟩ tv') g x s a no K nm off tv' (tags ++ [t]) text pos timed time wh := by
  have hg := h.gl
  have hx := h.xl
  have h1 : x ≠ g := by omega
  have hm : ∀ i, i ∈ tv.ownBlock.toList → w0.heap.size ≤ i := fun i hi => (h.tg.lt i (by simpa using hi)).1
  have hrw := Blk.aw h.rw_ k (fun e => own_blk_ne h.tg h.rw_ (by decide) (by simpa using e))
  have hsr : Sr w' g s a no := h.sr.aw k (fun e => by have := hm _ e; omega)
  have k2 : Aw [x] w' (w'.setCell ⟨x, 3, none⟩ tv') := (Aw.refl _ _).setCell (.inl (by simp)) tv'
  have ht : w'.ownsRow w0.heap.size 78 4 tv' (tags ++ [t]).length ((tags ++ [t]).flatMap tagCell) := by simpa using ho
  exact ⟨hsr.aw k2 (by simp; omega), Blk.set_ hrw 3 tv', own_aw ht k2 (fun j hj e => by
      simp only [List.mem_cons, List.not_mem_nil, or_false] at e
      subst e; exact own_blk_ne ht hrw (by decide) hj), h.gl, h.xl, (h.aw.own k (fun i hi => .inr (hm i hi))).setCell (.inr hx) _⟩
end
/-- A tag under way beside it. -/
structure QT (w0 w : World) (g x : Nat) (s : ByteArray) (a : Nat) (no : Bool) (K : Nat) (nm : ByteArray) (off : Nat) (tv : Value) (tags : List MTag) (text : ByteArray) (pos : Nat) (timed : Bool) (time : ByteArray) (wh : Nat) (t : Nat) (tn tl : ByteArray) (toff tpos : Nat) : Prop where
  l : QX w0 w g x s a no K nm off tv tags text pos timed time wh
  tt : Tg w t tn tl toff tpos
  tb : w0.heap.size ≤ t
  tx : t ≠ x
  t1 : tv.ownBlock ≠ some t
section
variable {w0 w w' : World} {g x K : Nat} {s : ByteArray} {a a' : Nat} {no no' : Bool} {nm : ByteArray} {off : Nat} {tv tv' : Value} {tags : List MTag} {text : ByteArray} {pos : Nat} {timed : Bool} {time : ByteArray} {wh : Nat} {t : Nat} {tn tl : ByteArray} {toff tpos : Nat}
theorem QT.new (h : QX w0 w g x s a no K nm off tv tags text pos timed time wh) (k : Nat) (hx : x < w.heap.size) : QT w0 (w.alloc (.cells #[.string ⟨#[]⟩, .string ⟨#[]⟩, .int .i64 (k : Int), .int .i64 0] 78)) g x s a no K nm off tv tags text pos timed time wh w.heap.size ⟨#[]⟩ ⟨#[]⟩ k 0 :=
  ⟨h.alloc _, Blk.new w _ _, h.aw.size, by omega, fun e => by have := (h.tg.lt _ e).2; omega⟩
theorem QT.scan (h : QT w0 w g x s a no K nm off tv tags text pos timed time wh t tn tl toff tpos) (hs : Sr w' g s a' no') (k : Aw [g] w w') : QT w0 w' g x s a' no' K nm off tv tags text pos timed time wh t tn tl toff tpos :=
  ⟨h.l.scan hs k, Blk.aw h.tt k (by have := h.l.gl; have := h.tb; simp; omega), h.tb, h.tx, h.t1⟩
theorem QT.put {tn' tl' : ByteArray} {toff' tpos' : Nat} (h : QT w0 w g x s a no K nm off tv tags text pos timed time wh t tn tl toff tpos) (i : Nat) (u : Value) (hu : Tg (w.setCell ⟨t, i, none⟩ u) t tn' tl' toff' tpos') : QT w0 (w.setCell ⟨t, i, none⟩ u) g x s a no K nm off tv tags text pos timed time wh t tn' tl' toff' tpos' :=
  ⟨h.l.own (S := [t]) ((Aw.refl _ _).setCell (.inl (by simp)) u) (fun i hi => by
    rw [List.mem_singleton] at hi; subst hi; exact ⟨h.tb, h.tx, h.t1⟩), hu, h.tb, h.tx, h.t1⟩
theorem QT.name (h : QT w0 w g x s a no K nm off tv tags text pos timed time wh t tn tl toff tpos) (v : ByteArray) : QT w0 (w.setCell ⟨t, 0, none⟩ (.string v)) g x s a no K nm off tv tags text pos timed time wh t v tl toff tpos := h.put 0 _ (Blk.set_ h.tt 0 (.string v))
theorem QT.val (h : QT w0 w g x s a no K nm off tv tags text pos timed time wh t tn tl toff tpos) (v : ByteArray) : QT w0 (w.setCell ⟨t, 1, none⟩ (.string v)) g x s a no K nm off tv tags text pos timed time wh t tn v toff tpos := h.put 1 _ (Blk.set_ h.tt 1 (.string v))
theorem QT.pos_ (h : QT w0 w g x s a no K nm off tv tags text pos timed time wh t tn tl toff tpos) (k : Nat) : QT w0 (w.setCell ⟨t, 3, none⟩ (.int .i64 (k : Int))) g x s a no K nm off tv tags text pos timed time wh t tn tl toff k := h.put 3 _ (Blk.set_ h.tt 3 (.int .i64 (k : Int)))
end
end Go.Proofs.YtpknjngjkdnpiaaGreatDoor
