/- The reference's scanner: a decimal; a row under way. The walk of the reference's tags. The walk of the reference's sample. The walk of the reference's told. The walk of the reference's told: the end, or none. The walk of the reference's rows of the open format. The walk of the reference's rows of the open format: the loop over lines. -/
import Derived.Test.YtdngieihlcknmaaDoorRefP
import Derived.Test.YtdngieihlcknmaaDoorRefE
import Derived.Test.YtdngieihlcknmaaDoorRowsK
import Derived.Deep.RegionLaw
import Derived.Deep.CutRange
import Derived.Deep.CutBlock
import Derived.Test.YtdngieihlcknmaaDoorRefO
import Derived.Test.YtdngieihlcknmaaDoorOpenF
import Derived.BigRegion
namespace Go.Proofs.YtdngieihlcknmaaDoor
set_option linter.unusedVariables false
set_option linter.unusedSimpArgs false
open Go.RowKit
theorem isB_nx {l : List UInt8} {a : Nat} {c : Int} (hc : c ≠ 0) : isB l a false c = (bt l a == c) := by
  unfold isB pkB
  by_cases h : a < l.length
  · simp [h]
  · rw [bt_end (by omega)]
    simp [h]
    exact fun e => hc e.symm
theorem nx_lt {l : List UInt8} {p n : Nat} {c : Int} (hl : l.length = n) (hc : c ≠ 0) (h : bt l p = c) : p < n := by
  rcases Nat.lt_or_ge p n with h' | h'
  · exact h'
  · rw [bt_end (by omega)] at h; exact absurd h.symm hc
set_option maxRecDepth 100000 in
set_option maxHeartbeats 6400000 in
theorem number_dec (g : Nat) (s : ByteArray) (a : Nat) (no : Bool) (b' : Nat) (n' : Bool) (w : World) (h : Sr w g s a no) (ha : a ≤ s.size) (hs : s.size ≤ 1048576) (hR : decS s.data.toList a no = (b', n')) :
    Calls Tryd.prog 37 #[.pointer (some ⟨g, 0, none⟩), .bool false] w fun e w' => e = .returned (.string (mkS (cutL s.data.toList a b'))) ∧ Sr w' g s b' n' ∧ Aw [g] w w' := by
  have hL : s.data.toList.length = s.size := by simp
  obtain ⟨⟨c0, c1, c2⟩, f1, f2⟩ := h.facts
  cases no
  case true =>
    obtain ⟨rfl, rfl⟩ : a = b' ∧ true = n' := by unfold decS numS at hR; simp at hR; exact ⟨hR.1, hR.2.symm⟩
    have h0 : mkS (cutL s.data.toList a a) = ⟨#[]⟩ := by unfold cutL; simp [mkS]
    rw [h0]
    clear h0 hR hL
    go_enter Tryd.func37, Tryd.ntmps37
    go_wp2_with fail
    go_ret
    exact ⟨rfl, h, Aw.refl _ _⟩
  case false =>
    have hs2 : s.size ≤ 4611686018427387904 := Nat.le_trans hs (by decide)
    obtain ⟨a0, ha0⟩ : ∃ a0, takeA s.data.toList a false 45 = a0 := ⟨_, rfl⟩
    obtain ⟨p1, m1, h1⟩ : ∃ p1 m1, someS s.data.toList digB a0 false = (p1, m1) := ⟨_, _, rfl⟩
    have hn : numS s.data.toList a false = (p1, m1) := by unfold numS; simp [ha0, h1]
    unfold decS at hR
    rw [hn] at hR
    have hle := takeA_le s.data.toList a false 45 (by rw [hL]; exact ha)
    rw [ha0] at hle
    have hl1 := someS_le s.data.toList digB a0 false hle.2
    rw [h1] at hl1
    rw [hL] at hle hl1
    simp only at hl1 hR
    have hi0 : (0 : Int) ≤ a := by omega
    have kN := fun W h => next_any g s a false W h hs2 ha
    have kR := fun W h => run_dig g s a0 false p1 m1 W h hle.2 hs h1
    have kN2 := fun W h => next_any g s p1 m1 W h hs2 hl1.2
    have hq : (bt s.data.toList a == 45) = isB s.data.toList a false 45 := (isB_nx (by decide)).symm
    unfold takeA at ha0
    rw [← ext_cut]
    cases m1
    case true =>
      simp only [if_true] at hR
      obtain ⟨rfl, rfl⟩ : p1 = b' ∧ true = n' := by injection hR with e1 e2; exact ⟨e1, e2⟩
      have hi1 : (a : Int) ≤ p1 := by omega
      have hi2 : (p1 : Int) ≤ s.size := by omega
      cases hb : isB s.data.toList a false 45
      all_goals
        rw [hb] at hq ha0
        simp only [Bool.false_eq_true, if_false, if_true] at ha0
        subst ha0
        clear hR hb hL h1 hn kN2
        generalize bt s.data.toList a = c at kN hq
        go_enter Tryd.func37, Tryd.ntmps37
        go_wp2_with (first
          | (go_at_call 21; (with_reducible refine (kN _ h).mono ?_); rintro e w1 ⟨rfl, q1, rfl⟩; have L1 := h.drewN q1; have A1 := (Aw.refl [g] w).drewN q1)
          | (go_at_call 34; (first | (with_reducible refine (kR _ L1).mono ?_) | refine (kR _ L1.at1).mono ?_); rintro e w2 ⟨rfl, h2, hA2⟩; obtain ⟨⟨d0, d1, d2⟩, g1, g2⟩ := h2.facts))
        all_goals
          go_quiet (fail)
          go_wp2_with fail
          go_ret
          first
          | exact ⟨rfl, h2.drewN _, (A1.trans hA2).drewN _⟩
          | exact ⟨rfl, h2.drewN _, ((A1.setCell (.inl (by simp)) _).trans hA2).drewN _⟩
    case false =>
      simp only [Bool.false_eq_true, if_false] at hR
      rw [isB_nx (by decide)] at hR
      have hlt := nx_lt (p := p1) hL (show (46 : Int) ≠ 0 by decide)
      cases hq2 : (bt s.data.toList p1 == 46)
      case false =>
        simp only [hq2, Bool.false_eq_true, if_false] at hR
        obtain ⟨rfl, rfl⟩ : p1 = b' ∧ false = n' := by injection hR with e1 e2; exact ⟨e1, e2⟩
        have hi1 : (a : Int) ≤ p1 := by omega
        have hi2 : (p1 : Int) ≤ s.size := by omega
        clear hlt
        generalize bt s.data.toList p1 = c2 at kN2 hq2
        cases hb : isB s.data.toList a false 45
        all_goals
          rw [hb] at hq ha0
          simp only [Bool.false_eq_true, if_false, if_true] at ha0
          subst ha0
          clear hR hb hL h1 hn
          generalize bt s.data.toList a = c at kN hq
          go_enter Tryd.func37, Tryd.ntmps37
          go_wp2_with (first
            | (go_at_call 21; (with_reducible refine (kN _ h).mono ?_); rintro e w1 ⟨rfl, q1, rfl⟩; have L1 := h.drewN q1; have A1 := (Aw.refl [g] w).drewN q1)
            | (go_at_call 34; (first | (with_reducible refine (kR _ L1).mono ?_) | refine (kR _ L1.at1).mono ?_); rintro e w2 ⟨rfl, h2, hA2⟩; obtain ⟨⟨d0, d1, d2⟩, g1, g2⟩ := h2.facts)
            | (go_at_call 21; (with_reducible refine (kN2 _ h2).mono ?_); rintro e w3 ⟨rfl, q3, rfl⟩; have L3 := h2.drewN q3))
          all_goals
            go_quiet (fail)
            go_wp2_with fail
            go_ret
            first
            | exact ⟨rfl, L3.drewN _, ((A1.trans hA2).drewN _).drewN _⟩
            | exact ⟨rfl, L3.drewN _, (((A1.setCell (.inl (by simp)) _).trans hA2).drewN _).drewN _⟩
      case true =>
        have hlt := hlt (by simpa using hq2)
        simp only [hq2, if_true] at hR
        have hl2 := someS_le s.data.toList digB (p1 + 1) false (by rw [hL]; omega)
        rw [hR, hL] at hl2
        simp only at hl2
        have kR2 := fun W h => run_dig g s (p1 + 1) false b' n' W h hlt hs hR
        have hi1 : (a : Int) ≤ b' := by omega
        have hi2 : (b' : Int) ≤ s.size := by omega
        generalize bt s.data.toList p1 = c2 at kN2 hq2
        cases hb : isB s.data.toList a false 45
        all_goals
          rw [hb] at hq ha0
          simp only [Bool.false_eq_true, if_false, if_true] at ha0
          subst ha0
          clear hR hb hL h1 hn
          generalize bt s.data.toList a = c at kN hq
          go_enter Tryd.func37, Tryd.ntmps37
          go_wp2_with (first
            | (go_at_call 21; (with_reducible refine (kN _ h).mono ?_); rintro e w1 ⟨rfl, q1, rfl⟩; have L1 := h.drewN q1; have A1 := (Aw.refl [g] w).drewN q1)
            | (go_at_call 34; (first | (with_reducible refine (kR _ L1).mono ?_) | refine (kR _ L1.at1).mono ?_); rintro e w2 ⟨rfl, h2, hA2⟩; obtain ⟨⟨d0, d1, d2⟩, g1, g2⟩ := h2.facts)
            | (go_at_call 21; (with_reducible refine (kN2 _ h2).mono ?_); rintro e w3 ⟨rfl, q3, rfl⟩; have L3 := h2.drewN q3; obtain ⟨⟨t0, t1, t2⟩, j1, j2⟩ := L3.facts)
            | (go_at_call 34; refine (kR2 _ L3.at1).mono ?_; rintro e w4 ⟨rfl, h4, hA4⟩; obtain ⟨⟨u0, u1, u2⟩, v1, v2⟩ := h4.facts))
          all_goals
            go_quiet (fail)
            go_wp2_with fail
            go_ret
            first
            | exact ⟨rfl, h4.drewN _, ((((A1.trans hA2).drewN _).setCell (.inl (by simp)) _).trans hA4).drewN _⟩
            | exact ⟨rfl, h4.drewN _, (((((A1.setCell (.inl (by simp)) _).trans hA2).drewN _).setCell (.inl (by simp)) _).trans hA4).drewN _⟩
/-- The reference's scanner, the row under way, its tags. -/
structure QX (w0 w : World) (g x : Nat) (s : ByteArray) (a : Nat) (no : Bool) (K : Nat) (nm : ByteArray) (off : Nat) (tv : Value) (tags : List MTag) (text : ByteArray) (pos : Nat) (timed : Bool) (time : ByteArray) (wh : Nat) : Prop where
  sr : Sr w g s a no
  rw_ : Rw w x K nm off tv text pos timed time wh
  tg : w.ownsRow w0.heap.size 44 4 tv tags.length (tags.flatMap tagCell)
  gl : g < w0.heap.size
  xl : w0.heap.size ≤ x
  aw : Aw [g] w0 w
section
variable {w0 w w' : World} {g x K : Nat} {s : ByteArray} {a a' : Nat} {no no' : Bool} {nm : ByteArray} {off : Nat} {tv tv' : Value} {tags : List MTag} {text : ByteArray} {pos : Nat} {timed : Bool} {time : ByteArray} {wh : Nat}
theorem QX.scan (h : QX w0 w g x s a no K nm off tv tags text pos timed time wh) (hs : Sr w' g s a' no') (k : Aw [g] w w') : QX w0 w' g x s a' no' K nm off tv tags text pos timed time wh :=
  ⟨hs, Blk.aw h.rw_ k (by have := h.gl; have := h.xl; simp; omega), own_aw h.tg k (fun i hi e => by have := h.gl; have := (h.tg.lt i hi).1; simp at e; omega), h.gl, h.xl, h.aw.trans k⟩
theorem QX.at1 (h : QX w0 w g x s a no K nm off tv tags text pos timed time wh) : QX w0 (w.setCell ⟨g, 1, none⟩ (.int .i64 ((a : Int) + 1))) g x s (a + 1) no K nm off tv tags text pos timed time wh :=
  h.scan h.sr.at1 ((Aw.refl _ _).setCell (.inl (by simp)) _)
theorem QX.fell (h : QX w0 w g x s a no K nm off tv tags text pos timed time wh) (b : Bool) : QX w0 (w.setCell ⟨g, 2, none⟩ (.bool b)) g x s a b K nm off tv tags text pos timed time wh :=
  h.scan (h.sr.no1 b) ((Aw.refl _ _).setCell (.inl (by simp)) _)
theorem QX.drewN (h : QX w0 w g x s a no K nm off tv tags text pos timed time wh) (n : Nat) : QX w0 (w.drewN n) g x s a no K nm off tv tags text pos timed time wh :=
  h.scan (h.sr.drewN n) ((Aw.refl _ _).drewN n)
theorem QX.drew (h : QX w0 w g x s a no K nm off tv tags text pos timed time wh) : QX w0 w.drew g x s a no K nm off tv tags text pos timed time wh :=
  h.scan h.sr.drew (Aw.refl _ _).drew
/-- Behind anything that turns blocks of the call's own that are none of these. -/
theorem QX.own {S : List Nat} (h : QX w0 w g x s a no K nm off tv tags text pos timed time wh) (k : Aw S w w') (hS : ∀ i, i ∈ S → w0.heap.size ≤ i ∧ i ≠ x ∧ tv.ownBlock ≠ some i) : QX w0 w' g x s a no K nm off tv tags text pos timed time wh :=
  ⟨h.sr.aw k (fun e => by have := h.gl; have := (hS _ e).1; omega), Blk.aw h.rw_ k (fun e => (hS _ e).2.1 rfl), own_aw h.tg k (fun i hi e => (hS _ e).2.2 hi), h.gl, h.xl, h.aw.own k (fun i hi => .inr (hS i hi).1)⟩
theorem QX.alloc (h : QX w0 w g x s a no K nm off tv tags text pos timed time wh) (o : Obj) : QX w0 (w.alloc o) g x s a no K nm off tv tags text pos timed time wh :=
  h.own (S := []) ((Aw.refl _ _).alloc o) (by simp)
/-- A cell of the row under way is written. -/
theorem QX.put {K' : Nat} {nm' : ByteArray} {off' : Nat} {text' : ByteArray} {pos' : Nat} {timed' : Bool} {time' : ByteArray} {wh' : Nat} (h : QX w0 w g x s a no K nm off tv tags text pos timed time wh) (i : Nat) (u : Value) (hu : Rw (w.setCell ⟨x, i, none⟩ u) x K' nm' off' tv text' pos' timed' time' wh') : QX w0 (w.setCell ⟨x, i, none⟩ u) g x s a no K' nm' off' tv tags text' pos' timed' time' wh' := by
  have hg := h.gl
  have hx := h.xl
  have k : Aw [x] w (w.setCell ⟨x, i, none⟩ u) := (Aw.refl _ _).setCell (.inl (by simp)) u
  exact ⟨h.sr.aw k (by simp; omega), hu, own_aw h.tg k (fun j hj e => by
      simp only [List.mem_cons, List.not_mem_nil, or_false] at e
      subst e; exact own_blk_ne h.tg h.rw_ (by decide) hj), h.gl, h.xl, h.aw.setCell (.inr hx) u⟩
theorem QX.name (h : QX w0 w g x s a no K nm off tv tags text pos timed time wh) (v : ByteArray) : QX w0 (w.setCell ⟨x, 1, none⟩ (.string v)) g x s a no K v off tv tags text pos timed time wh := h.put 1 _ (Blk.set_ h.rw_ 1 (.string v))
theorem QX.off_ (h : QX w0 w g x s a no K nm off tv tags text pos timed time wh) (v : Nat) : QX w0 (w.setCell ⟨x, 2, none⟩ (.int .i64 (v : Int))) g x s a no K nm v tv tags text pos timed time wh := h.put 2 _ (Blk.set_ h.rw_ 2 (.int .i64 (v : Int)))
theorem QX.text_ (h : QX w0 w g x s a no K nm off tv tags text pos timed time wh) (v : ByteArray) : QX w0 (w.setCell ⟨x, 5, none⟩ (.string v)) g x s a no K nm off tv tags v pos timed time wh := h.put 5 _ (Blk.set_ h.rw_ 5 (.string v))
theorem QX.pos_ (h : QX w0 w g x s a no K nm off tv tags text pos timed time wh) (v : Nat) : QX w0 (w.setCell ⟨x, 6, none⟩ (.int .i64 (v : Int))) g x s a no K nm off tv tags text v timed time wh := h.put 6 _ (Blk.set_ h.rw_ 6 (.int .i64 (v : Int)))
theorem QX.timed_ (h : QX w0 w g x s a no K nm off tv tags text pos timed time wh) (v : Bool) : QX w0 (w.setCell ⟨x, 7, none⟩ (.bool v)) g x s a no K nm off tv tags text pos v time wh := h.put 7 _ (Blk.set_ h.rw_ 7 (.bool v))
theorem QX.time_ (h : QX w0 w g x s a no K nm off tv tags text pos timed time wh) (v : ByteArray) : QX w0 (w.setCell ⟨x, 8, none⟩ (.string v)) g x s a no K nm off tv tags text pos timed v wh := h.put 8 _ (Blk.set_ h.rw_ 8 (.string v))
theorem QX.when_ (h : QX w0 w g x s a no K nm off tv tags text pos timed time wh) (v : Nat) : QX w0 (w.setCell ⟨x, 9, none⟩ (.int .i64 (v : Int))) g x s a no K nm off tv tags text pos timed time v := h.put 9 _ (Blk.set_ h.rw_ 9 (.int .i64 (v : Int)))
theorem QX.kind_ (h : QX w0 w g x s a no K nm off tv tags text pos timed time wh) (v : Nat) {u : Value} (hu : u = .int .i64 (v : Int)) : QX w0 (w.setCell ⟨x, 0, none⟩ u) g x s a no v nm off tv tags text pos timed time wh := by
  rw [hu]; exact h.put 0 _ (Blk.set_ h.rw_ 0 (.int .i64 (v : Int)))
/-- One more tag is put to those of the row. -/
theorem QX.tags_ (h : QX w0 w g x s a no K nm off tv tags text pos timed time wh) (k : Aw tv.ownBlock.toList w w') {t : MTag} (ho : w'.ownsRow w0.heap.size 44 4 tv' (tags.length + 1) (tags.flatMap tagCell ++ tagCell t)) : QX w0 (w'.setCell ⟨x, 3, none⟩ tv') g x s a no K nm off tv' (tags ++ [t]) text pos timed time wh := by
  have hg := h.gl
  have hx := h.xl
  have h1 : x ≠ g := by omega
  have hm : ∀ i, i ∈ tv.ownBlock.toList → w0.heap.size ≤ i := fun i hi => (h.tg.lt i (by simpa using hi)).1
  have hrw := Blk.aw h.rw_ k (fun e => own_blk_ne h.tg h.rw_ (by decide) (by simpa using e))
  have hsr : Sr w' g s a no := h.sr.aw k (fun e => by have := hm _ e; omega)
  have k2 : Aw [x] w' (w'.setCell ⟨x, 3, none⟩ tv') := (Aw.refl _ _).setCell (.inl (by simp)) tv'
  have ht : w'.ownsRow w0.heap.size 44 4 tv' (tags ++ [t]).length ((tags ++ [t]).flatMap tagCell) := by simpa using ho
  exact ⟨hsr.aw k2 (by simp; omega), Blk.set_ hrw 3 tv', own_aw ht k2 (fun j hj e => by
      simp only [List.mem_cons, List.not_mem_nil, or_false] at e
      subst e; exact own_blk_ne ht hrw (by decide) hj), h.gl, h.xl, (h.aw.own k (fun i hi => .inr (hm i hi))).setCell (.inr hx) _⟩
end
/-- A tag under way beside it. -/
structure QT (w0 w : World) (g x : Nat) (s : ByteArray) (a : Nat) (no : Bool) (K : Nat) (nm : ByteArray) (off : Nat) (tv : Value) (tags : List MTag) (text : ByteArray) (pos : Nat) (timed : Bool) (time : ByteArray) (wh : Nat) (t : Nat) (tn tl : ByteArray) (toff tpos : Nat) : Prop where
  l : QX w0 w g x s a no K nm off tv tags text pos timed time wh
  tt : Tg w t tn tl toff tpos
  tb : w0.heap.size ≤ t
  tx : t ≠ x
  t1 : tv.ownBlock ≠ some t
section
variable {w0 w w' : World} {g x K : Nat} {s : ByteArray} {a a' : Nat} {no no' : Bool} {nm : ByteArray} {off : Nat} {tv tv' : Value} {tags : List MTag} {text : ByteArray} {pos : Nat} {timed : Bool} {time : ByteArray} {wh : Nat} {t : Nat} {tn tl : ByteArray} {toff tpos : Nat}
theorem QT.new (h : QX w0 w g x s a no K nm off tv tags text pos timed time wh) (k : Nat) (hx : x < w.heap.size) : QT w0 (w.alloc (.cells #[.string ⟨#[]⟩, .string ⟨#[]⟩, .int .i64 (k : Int), .int .i64 0] 44)) g x s a no K nm off tv tags text pos timed time wh w.heap.size ⟨#[]⟩ ⟨#[]⟩ k 0 :=
  ⟨h.alloc _, Blk.new w _ _, h.aw.size, by omega, fun e => by have := (h.tg.lt _ e).2; omega⟩
theorem QT.scan (h : QT w0 w g x s a no K nm off tv tags text pos timed time wh t tn tl toff tpos) (hs : Sr w' g s a' no') (k : Aw [g] w w') : QT w0 w' g x s a' no' K nm off tv tags text pos timed time wh t tn tl toff tpos :=
  ⟨h.l.scan hs k, Blk.aw h.tt k (by have := h.l.gl; have := h.tb; simp; omega), h.tb, h.tx, h.t1⟩
theorem QT.put {tn' tl' : ByteArray} {toff' tpos' : Nat} (h : QT w0 w g x s a no K nm off tv tags text pos timed time wh t tn tl toff tpos) (i : Nat) (u : Value) (hu : Tg (w.setCell ⟨t, i, none⟩ u) t tn' tl' toff' tpos') : QT w0 (w.setCell ⟨t, i, none⟩ u) g x s a no K nm off tv tags text pos timed time wh t tn' tl' toff' tpos' :=
  ⟨h.l.own (S := [t]) ((Aw.refl _ _).setCell (.inl (by simp)) u) (fun i hi => by
    rw [List.mem_singleton] at hi; subst hi; exact ⟨h.tb, h.tx, h.t1⟩), hu, h.tb, h.tx, h.t1⟩
theorem QT.name (h : QT w0 w g x s a no K nm off tv tags text pos timed time wh t tn tl toff tpos) (v : ByteArray) : QT w0 (w.setCell ⟨t, 0, none⟩ (.string v)) g x s a no K nm off tv tags text pos timed time wh t v tl toff tpos := h.put 0 _ (Blk.set_ h.tt 0 (.string v))
theorem QT.val (h : QT w0 w g x s a no K nm off tv tags text pos timed time wh t tn tl toff tpos) (v : ByteArray) : QT w0 (w.setCell ⟨t, 1, none⟩ (.string v)) g x s a no K nm off tv tags text pos timed time wh t tn v toff tpos := h.put 1 _ (Blk.set_ h.tt 1 (.string v))
theorem QT.pos_ (h : QT w0 w g x s a no K nm off tv tags text pos timed time wh t tn tl toff tpos) (k : Nat) : QT w0 (w.setCell ⟨t, 3, none⟩ (.int .i64 (k : Int))) g x s a no K nm off tv tags text pos timed time wh t tn tl toff k := h.put 3 _ (Blk.set_ h.tt 3 (.int .i64 (k : Int)))
end
theorem otagsGo_step' (l : List UInt8) (f a : Nat) (acc : List MTag) : otagsGo l (f + 1) a false acc = if isB l (otagS l a false).2.1 (otagS l a false).2.2 44 then otagsGo l f ((otagS l a false).2.1 + 1) false (acc ++ [(otagS l a false).1]) else (acc ++ [(otagS l a false).1], (otagS l a false).2) := rfl
theorem otag_cut {l : List UInt8} {a b1 b2 b3 b4 : Nat} {no m1 m2 m3 m4 : Bool} {T : List UInt8} (h1 : nmS l owLabel a no = (b1, m1)) (h2 : wordS l wEq b1 m1 = (b2, m2)) (h3 : ink l 34 inV 110 b2 m2 = (T, b3, m3)) (h4 : wordS l [34] b3 m3 = (b4, m4)) : (otagS l a no).2 = (b4, m4) ∧ (m4 = false → (otagS l a no).1 = ⟨mkS (cutL l a b1), mkS T, a, b2⟩) := by
  unfold otagS
  simp only [h1, h2, h3, h4, true_and]
  intro h
  have hm3 : m3 = false := by
    cases m3
    · rfl
    · rw [wordS_no] at h4; injection h4 with _ e; rw [h] at e; cases e
  simp [inkV, h3, hm3]
set_option maxRecDepth 100000 in
set_option maxHeartbeats 12800000 in
theorem tags17_any (g x : Nat) (s : ByteArray) (a : Nat) (T : List MTag) (a1 : Nat) (n1 : Bool) (a' : Nat) (no' : Bool) (K : Nat) (nm : ByteArray) (off : Nat) (text : ByteArray) (pos : Nat) (timed : Bool) (time : ByteArray) (wh : Nat) (wb w : World) (h : QX wb w g x s a false K nm off (.slice none 0 0) [] text pos timed time wh) (ha : a ≤ s.size) (hs : s.size ≤ 1048576) (hR : otagsGo s.data.toList (s.data.toList.length + 1) a false [] = (T, a1, n1)) (hR2 : wordS s.data.toList [125] a1 n1 = (a', no')) :
    Calls Tryd.prog 36 #[.pointer (some ⟨g, 0, none⟩), .pointer (some ⟨x, 0, none⟩)] w fun e w' => e = .returned (.tuple #[]) ∧ ∃ tv tags, QX wb w' g x s a' no' K nm off tv tags text pos timed time wh ∧ (no' = false → tags = T) := by
  have hL : s.data.toList.length = s.size := by simp
  have HL := Lib.hid hL
  have hs2 : s.size ≤ 4611686018427387904 := Nat.le_trans hs (by decide)
  have H1 := Lib.hid hR
  have HW := Lib.hid hR2
  obtain ⟨i0, hi0, hz0, hz1, hz2⟩ := info_parts Tryd.infoTag
  have hut : Tryd.prog.underlying 39 = some (.slice 44) := by kernel_rfl
  clear hR hR2 hL
  go_enter Tryd.func36, Tryd.ntmps36
  go_wp2_with fail
  go_loopw [4] (fun _ wr => ∃ (p f : Nat) (acc : List MTag) (tv : Value), p ≤ s.size ∧ s.size < f + p ∧ acc.length ≤ p ∧ QX wb wr g x s p false K nm off tv acc text pos timed time wh ∧ Hid (otagsGo s.data.toList f p false acc = (T, a1, n1))) (fun _ wr => s.size - atOf wr g)
  case atStart => exact ⟨a, _, [], _, by omega, by (have := HL.out; omega), by simp, h, H1⟩
  case round =>
    clear h H1
    obtain ⟨p, f, acc, tv, hp, hf, hacc, hX, HT⟩ := hrel
    obtain ⟨f, rfl⟩ : ∃ f', f = f' + 1 := ⟨f - 1, by omega⟩
    obtain ⟨⟨c0, c1, c2⟩, f1, f2⟩ := hX.sr.facts
    have hat := hX.sr.atOf
    have hT := HT.out
    rw [otagsGo_step'] at hT
    obtain ⟨b1, m1, e1⟩ : ∃ b1 m1, nmS s.data.toList owLabel p false = (b1, m1) := ⟨_, _, rfl⟩
    obtain ⟨b2, m2, e2⟩ : ∃ b2 m2, wordS s.data.toList wEq b1 m1 = (b2, m2) := ⟨_, _, rfl⟩
    obtain ⟨Tv, b3, m3, e3⟩ : ∃ Tv b3 m3, ink s.data.toList 34 inV 110 b2 m2 = (Tv, b3, m3) := ⟨_, _, _, rfl⟩
    obtain ⟨b4, m4, e4⟩ : ∃ b4 m4, wordS s.data.toList [34] b3 m3 = (b4, m4) := ⟨_, _, rfl⟩
    obtain ⟨hX2, hX1⟩ := otag_cut e1 e2 e3 e4
    rw [hX2] at hT
    dsimp only at hT
    have hb1 := nmS_le (l := s.data.toList) owLabel (a := p) false (by rw [HL.out]; omega)
    rw [e1, HL.out] at hb1
    have hb2 := wordS_le s.data.toList wEq b1 m1 (by rw [HL.out]; exact hb1.2)
    rw [e2, HL.out] at hb2
    have hb3 := ink_le s.data.toList 34 inV 110 b2 m2 (by rw [HL.out]; exact hb2.2)
    rw [e3, HL.out] at hb3
    have hb4 := wordS_le s.data.toList [34] b3 m3 (by rw [HL.out]; exact hb3.2.1)
    rw [e4, HL.out] at hb4
    simp only at hb1 hb2 hb3 hb4
    have k1 := fun W h => run_nm_label g s p false b1 m1 W h hp hs e1
    have k2 := fun W h => lit_any g s ⟨#[61, 34]⟩ b1 m1 b2 m2 W h hb1.2 hs (by decide) e2
    have k3 := fun W h => str_any g s ⟨#[10]⟩ ⟨#[92, 34, 110]⟩ 34 110 b2 m2 Tv b3 m3 W h hb2.2 hs (by decide) (by decide) (by intro c _; simp [hasB, eq_comm]) e3
    have k4 := fun W h => lit_any g s ⟨#[34]⟩ b3 m3 b4 m4 W h hb3.2.1 hs (by decide) e4
    have kN := fun W h => next_any g s b4 m4 W h hs2 hb4.2
    generalize hVk : mkS (cutL s.data.toList p b1) = Vk at k1 hX1
    generalize hVv : mkS Tv = Vv at k3 hX1
    clear e1 e2 e3 e4 hX2 hVk hVv HT
    have HT := Lib.hid hT
    have HX1 := Lib.hid hX1
    clear hT hX1
    have hxl := hX.rw_.lt
    have L3 := QT.new hX p hxl
    go_upto_region 7 with (first
      | (go_at_call 34; (with_reducible refine (k1 _ L3.l.sr).mono ?_); rintro e w4 ⟨rfl, h4, hA4⟩; have L4 := L3.scan h4 hA4; obtain ⟨_, x0, x1, x2, x3⟩ := L4.tt.facts; have L5 := L4.name Vk)
      | (go_at_call 22; (with_reducible refine (k2 _ L5.l.sr).mono ?_); rintro e w6 ⟨rfl, h6, hA6⟩; have L6 := L5.scan h6 hA6; obtain ⟨⟨_, y1, _⟩, _⟩ := L6.l.sr.facts; obtain ⟨_, x0, x1, x2, x3⟩ := L6.tt.facts; have L7 := L6.pos_ b2)
      | (go_at_call 35; (with_reducible refine (k3 _ L7.l.sr).mono ?_); rintro e w8 ⟨rfl, h8, hA8⟩; have L8 := L7.scan h8 hA8; obtain ⟨_, x0, x1, x2, x3⟩ := L8.tt.facts; have L9 := L8.val Vv)
      | (go_at_call 22; (with_reducible refine (k4 _ L9.l.sr).mono ?_); rintro e w10 ⟨rfl, h10, hA10⟩; have L10 := L9.scan h10 hA10))
    clear L9 L8 L7 L6 L5 L4 L3 k1 k2 k3 k4 x0 x1 x2 x3 y1 h4 h6 h8 h10 hA4 hA6 hA8 hA10 c0 c1 c2 f1 f2 hX
    obtain ⟨⟨z0, z1, z2, z3⟩, _⟩ := L10.tt.facts
    obtain ⟨⟨_, _, _, v3, _⟩, _, _, _, r3, _⟩ := L10.l.rw_.facts
    have htg := L10.l.drew.tg
    obtain ⟨_, _, _, _, r4, _⟩ := Rw.facts (Blk.alloc L10.l.drew.rw_ (.cells #[.string Vk, .string Vv, .int .i64 (p : Int), .int .i64 (b2 : Int)] 44))
    obtain ⟨⟨_, _, _, m3', _⟩, _⟩ := Rw.facts (Blk.alloc L10.l.rw_ (.cells #[.string Vk, .string Vv, .int .i64 (p : Int), .int .i64 (b2 : Int)] 44))
    go_region_law (refine step_append_lies _ (by rfl) _ _ _ (by rfl) wb.heap.size 44 i0 _ 4 48 hut hi0 hz0 hz1 hz2 rfl (by omega) tv acc.length (acc.flatMap tagCell) (by rfl) (htg.alloc _) ⟨w10.heap.size, 0, none⟩ 1 1 (tagCell ⟨Vk, Vv, p, b2⟩) (by rfl) (by rfl) (World.news_of_block (heap_alloc_new w10.drew _)) (by simp [tagCell, Value.oneCell']) (by omega) (by simp [maxLen]; omega) (by omega) (by have := L10.l.aw.size; simp; omega) (w10.heap.size + 1) (by simp) ?_; intro gg capg w11 hown11 hgrow hat11 hlt11; obtain ⟨_, _, _, _, r5, _⟩ := Rw.facts (Blk.grown (w := _) (Blk.alloc L10.l.drew.rw_ _) hgrow (fun e => own_blk_ne L10.l.tg L10.l.rw_ (by decide) e.symm)); have L11 := L10.l.drew.tags_ (((Aw.refl _ _).alloc _).grown hgrow (fun k hk => .inl (by simp [hk]))) hown11)
    all_goals
      have L11' := L11
      revert L11'
      generalize World.setCell _ _ _ = W12
      intro L12
      clear L11 hown11 hgrow hat11 hlt11 r3 r4 r5 z0 z1 z2 z3 v3 m3' htg
      obtain ⟨⟨y0, y1, y2⟩, j1, j2⟩ := L12.sr.facts
      cases m4
      case true =>
        have hT := HT.out
        simp only [isB_no, Bool.false_eq_true, if_false] at hT
        obtain ⟨_, rfl, rfl⟩ : True ∧ b4 = a1 ∧ true = n1 := by injection hT with e1 e2; injection e2 with e3 e4; exact ⟨trivial, e3, e4⟩
        have hW := HW.out
        rw [wordS_no] at hW
        obtain ⟨rfl, rfl⟩ : b4 = a' ∧ true = no' := by injection hW with e1 e2; exact ⟨e1, e2⟩
        have kW := fun W h => lit_any g s ⟨#[125]⟩ b4 true b4 true W h hb4.2 hs (by decide) (wordS_no _ _ _)
        clear hT HT HW hW HX1
        go_wp2_with (go_at_call 22; (with_reducible refine (kW _ L12.sr).mono ?_); rintro e w13 ⟨rfl, h13, hA13⟩; have L13 := L12.scan h13 hA13)
        go_end0
        exact ⟨rfl, _, _, L13, fun e => by cases e⟩
      case false =>
        have hX1 := HX1.out rfl
        have hT := HT.out
        rw [isB_nx (by decide), hX1] at hT
        have hlt := nx_lt (p := b4) HL.out (show (44 : Int) ≠ 0 by decide)
        clear HT HX1 hX1
        generalize bt s.data.toList b4 = C at kN hT hlt
        cases hq : (C == 44)
        case false =>
          have hq2 : (C != 44) = true := by rw [bne, hq]; rfl
          simp only [hq, Bool.false_eq_true, if_false] at hT
          obtain ⟨hfl, rfl, rfl⟩ : acc ++ [⟨Vk, Vv, p, b2⟩] = T ∧ b4 = a1 ∧ false = n1 := by injection hT with e1 e2; injection e2 with e3 e4; exact ⟨e1, e3, e4⟩
          have HF := Lib.hid hfl
          have kW := fun W h => lit_any g s ⟨#[125]⟩ b4 false a' no' W h hb4.2 hs (by decide) HW.out
          clear hT hfl HW hlt
          go_wp2_with (first
            | (go_at_call 21; (with_reducible refine (kN _ L12.sr).mono ?_); rintro e w13 ⟨rfl, q1, rfl⟩; have L13 := L12.drewN q1)
            | (go_at_call 22; (with_reducible refine (kW _ L13.sr).mono ?_); rintro e w14 ⟨rfl, h14, hA14⟩; have L14 := L13.scan h14 hA14))
          go_end0
          exact ⟨rfl, _, _, L14, fun _ => HF.out⟩
        case true =>
          have hq2 : (C != 44) = false := by rw [bne, hq]; rfl
          simp only [hq, if_true] at hT
          have hlt := hlt (by simpa using hq)
          have HT := Lib.hid hT
          clear hT HW
          go_wp2_with (go_at_call 21; (with_reducible refine (kN _ L12.sr).mono ?_); rintro e w13 ⟨rfl, q1, rfl⟩; have L13 := L12.drewN q1; obtain ⟨⟨t0, t1, t2⟩, o1, o2⟩ := L13.sr.facts; have L14 := L13.at1)
          exact ⟨⟨b4 + 1, f, acc ++ [⟨Vk, Vv, p, b2⟩], _, by omega, by omega, by simp; omega, L14, HT⟩, by rw [L14.sr.atOf, hat]; omega⟩
/-- A sample, without its line feed. -/
def sampP (l : List UInt8) (a : Nat) (no : Bool) : MRow × Nat × Bool :=
  let n := nmS l owName a no
  let t := otagsS l n.1 n.2
  let w := wordS l [32] t.2.1 t.2.2
  let d := decS l w.1 w.2
  if isB l d.1 d.2 32 then
    (⟨0, mkS (cutL l a n.1), a, t.1, [], mkS (cutL l w.1 d.1), w.1, true, mkS (cutL l (d.1 + 1) (decS l (d.1 + 1) false).1), d.1 + 1⟩, decS l (d.1 + 1) false)
  else (⟨0, mkS (cutL l a n.1), a, t.1, [], mkS (cutL l w.1 d.1), w.1, false, mkS [], 0⟩, d)
theorem sampS_P (l : List UInt8) (a : Nat) (no : Bool) : sampS l a no = ((sampP l a no).1, wordS l [10] (sampP l a no).2.1 (sampP l a no).2.2) := by
  unfold sampS sampP
  simp only
  split <;> rfl
/-- What a row is told as. -/
def RowT (R : MRow) (no : Bool) (base : Nat) (v : Value) (w : World) : Prop :=
  ∃ x : VRow, v = .agg #[.int .i64 (x.row.kind : Int), .string x.row.name, .int .i64 (x.row.off : Int), .slice x.tA x.row.tags.length x.tc, .slice x.fA x.row.fields.length x.fc, .string x.row.text, .int .i64 (x.row.pos : Int), .bool x.row.timed, .string x.row.time, .int .i64 (x.row.when_ : Int)] ∧ OwnV w base x ∧ (no = false → x.row = R)
theorem rowT_mk {R : MRow} {no : Bool} {base : Nat} {w : World} {K : Nat} {nm : ByteArray} {off : Nat} {tA : Option Addr} {tags : List MTag} {tc : Nat} {text : ByteArray} {pos : Nat} {timed : Bool} {time : ByteArray} {wh : Nat}
    (ht : w.ownsRow base 44 4 (.slice tA tags.length tc) tags.length (tags.flatMap tagCell)) (hR : no = false → (⟨K, nm, off, tags, [], text, pos, timed, time, wh⟩ : MRow) = R) :
    RowT R no base (.agg #[.int .i64 (K : Int), .string nm, .int .i64 (off : Int), .slice tA tags.length tc, .slice none 0 0, .string text, .int .i64 (pos : Int), .bool timed, .string time, .int .i64 (wh : Int)]) w :=
  ⟨⟨⟨K, nm, off, tags, [], text, pos, timed, time, wh⟩, tA, tc, none, 0⟩, rfl, ⟨ht, World.ownsRow_nil _ _ _ _⟩, hR⟩
theorem Aw.ten' {w : World} {q : Nat} {p0 p1 p2 p3 p4 p5 p6 p7 p8 p9 : Addr} {u0 u1 u2 u3 u4 u5 u6 u7 u8 u9 : Value} (h0 : p0.block = q) (h1 : p1.block = q) (h2 : p2.block = q) (h3 : p3.block = q) (h4 : p4.block = q) (h5 : p5.block = q) (h6 : p6.block = q) (h7 : p7.block = q) (h8 : p8.block = q) (h9 : p9.block = q) :
    Aw [q] w ((((((((((w.setCell p0 u0).setCell p1 u1).setCell p2 u2).setCell p3 u3).setCell p4 u4).setCell p5 u5).setCell p6 u6).setCell p7 u7).setCell p8 u8).setCell p9 u9) :=
  ((((((((((Aw.refl _ _).setCell (.inl (by simp [h0])) _).setCell (.inl (by simp [h1])) _).setCell (.inl (by simp [h2])) _).setCell (.inl (by simp [h3])) _).setCell (.inl (by simp [h4])) _).setCell (.inl (by simp [h5])) _).setCell (.inl (by simp [h6])) _).setCell (.inl (by simp [h7])) _).setCell (.inl (by simp [h8])) _).setCell (.inl (by simp [h9])) _
/-- The row's cells are copied to the block of what is told. -/
theorem QX.fin {w w1 wx w' : World} {g q x K : Nat} {s : ByteArray} {a : Nat} {no : Bool} {nm : ByteArray} {off : Nat} {tA : Option Addr} {tags : List MTag} {tc : Nat} {text : ByteArray} {pos : Nat} {timed : Bool} {time : ByteArray} {wh : Nat} {R : MRow} {cs : Array Value}
    (h : QX w1 wx g x s a no K nm off (.slice tA tags.length tc) tags text pos timed time wh) (hw : Aw [] w w1) (hq : Blk w1 q 42 cs) (hq2 : w.heap.size ≤ q) (hg : g < w.heap.size) (k : Aw [q] wx w') (hR : no = false → (⟨K, nm, off, tags, [], text, pos, timed, time, wh⟩ : MRow) = R) :
    RowT R no w.heap.size (.agg #[.int .i64 (K : Int), .string nm, .int .i64 (off : Int), .slice tA tags.length tc, .slice none 0 0, .string text, .int .i64 (pos : Int), .bool timed, .string time, .int .i64 (wh : Int)]) w' ∧ Sr w' g s a no ∧ Aw [g] w w' := by
  have hqq : Blk wx q 42 cs := Blk.aw hq h.aw (by simp; omega)
  refine ⟨rowT_mk (own_more (own_aw h.tg k (fun j hj e => by
      simp only [List.mem_cons, List.not_mem_nil, or_false] at e
      subst e; exact own_blk_ne h.tg hqq (by decide) hj)) hw.size) hR, h.sr.aw k (by simp; omega), ?_⟩
  exact (((hw.mono (by simp)).trans h.aw).own k (fun i hi => by simp at hi; subst hi; exact .inr hq2))
set_option maxRecDepth 100000 in
set_option maxHeartbeats 12800000 in
theorem samp17_any (g : Nat) (s : ByteArray) (a : Nat) (R : MRow) (a' : Nat) (no' : Bool) (w : World) (h : Sr w g s a false) (ha : a ≤ s.size) (hs : s.size ≤ 1048576) (hR : sampP s.data.toList a false = (R, a', no')) :
    Calls Tryd.prog 24 #[.pointer (some ⟨g, 0, none⟩)] w fun e w' => ∃ v, e = .returned v ∧ RowT R no' w.heap.size v w' ∧ Sr w' g s a' no' ∧ Aw [g] w w' := by
  have hL : s.data.toList.length = s.size := by simp
  have hs2 : s.size ≤ 4611686018427387904 := Nat.le_trans hs (by decide)
  have hg := h.lt
  obtain ⟨a1, n1, h1⟩ : ∃ a1 n1, nmS s.data.toList owName a false = (a1, n1) := ⟨_, _, rfl⟩
  obtain ⟨T, a2, n2, h2⟩ : ∃ T a2 n2, otagsS s.data.toList a1 n1 = (T, a2, n2) := ⟨_, _, _, rfl⟩
  obtain ⟨a3, n3, h3⟩ : ∃ a3 n3, wordS s.data.toList [32] a2 n2 = (a3, n3) := ⟨_, _, rfl⟩
  obtain ⟨a4, n4, h4⟩ : ∃ a4 n4, decS s.data.toList a3 n3 = (a4, n4) := ⟨_, _, rfl⟩
  have hl1 := nmS_le (l := s.data.toList) owName false (by rw [hL]; exact ha)
  rw [h1, hL] at hl1
  have hl2 := otagsS_le (l := s.data.toList) n1 (by rw [hL]; exact hl1.2)
  rw [h2, hL] at hl2
  have hl3 := wordS_le s.data.toList [32] a2 n2 (by rw [hL]; exact hl2.2)
  rw [h3, hL] at hl3
  have hl4 := decS_le s.data.toList a3 n3 (by rw [hL]; exact hl3.2)
  rw [h4, hL] at hl4
  simp only at hl1 hl2 hl3 hl4
  unfold sampP at hR
  simp only [h1, h2, h3, h4] at hR
  have k1 := fun W h => run_nm_name g s a false a1 n1 W h ha hs h1
  have kN1 := fun W h => next_any g s a1 n1 W h hs2 hl1.2
  have kW := fun W h => lit_any g s ⟨#[32]⟩ a2 n2 a3 n3 W h hl2.2 hs (by decide) h3
  have kD := fun W h => number_dec g s a3 n3 a4 n4 W h hl3.2 hs h4
  have kN4 := fun W h => next_any g s a4 n4 W h hs2 hl4.2
  generalize mkS (cutL s.data.toList a a1) = V1 at k1 hR
  generalize mkS (cutL s.data.toList a3 a4) = V5 at kD hR
  have HN : Hid (n4 = false → n2 = false) := Lib.hid (fun e => by
    cases n2
    · rfl
    · rw [wordS_no] at h3
      injection h3 with _ e3
      rw [← e3] at h4
      unfold decS numS at h4
      simp at h4
      rw [e] at h4
      exact absurd h4.2 (by decide))
  have H2 := Lib.hid h2
  have HR := Lib.hid hR
  have HL := Lib.hid hL
  clear h1 h2 h3 h4 hR hL
  have hAw1 : Aw [] w (w.alloc (.cells #[.int .i64 0, .string ⟨#[]⟩, .int .i64 0, .slice none 0 0, .slice none 0 0, .string ⟨#[]⟩, .int .i64 0, .bool false, .string ⟨#[]⟩, .int .i64 0] 42)) := (Aw.refl _ _).alloc _
  have hQ0 := Blk.new w 42 #[.int .i64 0, .string ⟨#[]⟩, .int .i64 0, .slice none 0 0, .slice none 0 0, .string ⟨#[]⟩, .int .i64 0, .bool false, .string ⟨#[]⟩, .int .i64 0]
  have hs1 := h.alloc (.cells #[.int .i64 0, .string ⟨#[]⟩, .int .i64 0, .slice none 0 0, .slice none 0 0, .string ⟨#[]⟩, .int .i64 0, .bool false, .string ⟨#[]⟩, .int .i64 0] 42)
  obtain ⟨⟨c0, c1, c2⟩, f1, f2⟩ := h.facts
  go_enter Tryd.func24, Tryd.ntmps24
  go_upto_region 1 with fail
  generalize hw1 : w.alloc (.cells #[.int .i64 0, .string ⟨#[]⟩, .int .i64 0, .slice none 0 0, .slice none 0 0, .string ⟨#[]⟩, .int .i64 0, .bool false, .string ⟨#[]⟩, .int .i64 0] 42) = w1 at hAw1 hQ0 hs1 ⊢
  generalize hq0 : w.heap.size = q at hQ0 ⊢
  clear hw1 c0 c1 c2 f1 f2
  obtain ⟨⟨c0, c1, c2⟩, f1, f2⟩ := hs1.facts
  have hq1 : q < w1.heap.size := Blk.lt hQ0
  have L1 : QX w1 (w1.alloc (.cells #[.int .i64 0, .string ⟨#[]⟩, .int .i64 (a : Int), .slice none 0 0, .slice none 0 0, .string ⟨#[]⟩, .int .i64 0, .bool false, .string ⟨#[]⟩, .int .i64 0] 42)) g w1.heap.size s a false 0 ⟨#[]⟩ a (.slice none 0 0) [] ⟨#[]⟩ 0 false ⟨#[]⟩ 0 :=
    ⟨hs1.alloc _, by
      have := Blk.new w1 42 #[.int .i64 0, .string ⟨#[]⟩, .int .i64 (a : Int), .slice none 0 0, .slice none 0 0, .string ⟨#[]⟩, .int .i64 0, .bool false, .string ⟨#[]⟩, .int .i64 0]
      simpa [Rw] using this, World.ownsRow_nil _ _ _ _, hs1.lt, Nat.le_refl _, (Aw.refl _ _).alloc _⟩
  go_upto_region 3 with (first
    | (go_at_call 34; (with_reducible refine (k1 _ L1.sr).mono ?_); rintro e w4 ⟨rfl, h4, hA4⟩; have L4 := L1.scan h4 hA4; obtain ⟨_, x0, x1, x2, x3⟩ := L4.rw_.facts; have L5 := L4.name V1))
  revert L5
  generalize World.setCell _ _ _ = W5
  intro L5
  clear L4 L1 h4 hA4 k1 x0 x1 x2 x3 c0 c1 c2 f1 f2
  obtain ⟨⟨c0, c1, c2⟩, f1, f2⟩ := L5.sr.facts
  have h2 := H2.out
  unfold otagsS at h2
  generalize hC : bt s.data.toList a1 = C at kN1
  cases hq : (C == 123)
  case false =>
    have hb : isB s.data.toList a1 n1 123 = false := by
      cases n1
      · rw [isB_nx (by decide), hC]; exact hq
      · rfl
    simp only [hb, Bool.false_eq_true, if_false] at h2
    obtain ⟨rfl, rfl, rfl⟩ : [] = T ∧ a1 = a2 ∧ n1 = n2 := by injection h2 with e1 e2; injection e2 with e3 e4; exact ⟨e1, e3, e4⟩
    clear h2 hb hC
    go_upto_region 8 with (go_at_call 21; (with_reducible refine (kN1 _ L5.sr).mono ?_); rintro e w6 ⟨rfl, q1, rfl⟩; have L6 := L5.drewN q1)
    generalize W5.drewN q1 = W6 at L6 ⊢
    have hY' : ∃ tv tags, QX w1 W6 g w1.heap.size s a1 n1 0 V1 a tv tags ⟨#[]⟩ 0 false ⟨#[]⟩ 0 ∧ (n1 = false → tags = []) := ⟨_, _, L6, fun _ => rfl⟩
    clear L6
    obtain ⟨tv, tags, hY, hT⟩ := hY'
    have HT := Lib.hid hT
    clear L5 H2 hT kN1 c0 c1 c2 f1 f2
    obtain ⟨tA, tc, rfl⟩ := own_form hY.tg
    have hqg : q ∉ [g] := by simp; omega
    generalize hC : bt s.data.toList a4 = C at kN4
    have hR := HR.out
    cases n4
    case true =>
      simp only [isB_no, Bool.false_eq_true, if_false] at hR
      obtain ⟨_, rfl, rfl⟩ : True ∧ a4 = a' ∧ true = no' := by injection hR with e1 e2; injection e2 with e3 e4; exact ⟨trivial, e3, e4⟩
      clear hR HR HT hC
      cases hq : (C == 32)
      all_goals
        go_wp2_with (first
          | (go_at_call 22; (with_reducible refine (kW _ hY.sr).mono ?_); rintro e w6 ⟨rfl, h6, hA6⟩; have L6 := hY.scan h6 hA6; obtain ⟨⟨c0, c1, c2⟩, _⟩ := L6.sr.facts; obtain ⟨_, r0, r1, r2, r3, r4, r5, r6, r7, r8, r9⟩ := L6.rw_.facts; have L7 := L6.pos_ a3)
          | (go_at_call 37; (with_reducible refine (kD _ L7.sr).mono ?_); rintro e w8 ⟨rfl, h8, hA8⟩; have L8 := L7.scan h8 hA8; obtain ⟨_, r0, r1, r2, r3, r4, r5, r6, r7, r8, r9⟩ := L8.rw_.facts; have L9 := L8.text_ V5)
          | (go_at_call 21; (with_reducible refine (kN4 _ L9.sr).mono ?_); rintro e w10 ⟨rfl, q1, rfl⟩; have LZ := L9.drewN q1; obtain ⟨⟨c0, c1, c2⟩, _⟩ := LZ.sr.facts; obtain ⟨⟨d0, d1, d2, d3, d4, d5, d6, d7, d8, d9⟩, _⟩ := LZ.rw_.facts; obtain ⟨⟨e0, e1, e2, e3, e4, e5, e6, e7, e8, e9⟩, v0, v1, v2, v3, v4, v5, v6, v7, v8, v9⟩ := Rw.facts (Blk.aw hQ0 LZ.aw hqg)))
        refine bodyPost_ret (v := .agg #[.int .i64 0, .string V1, .int .i64 (a : Int), .slice tA tags.length tc, .slice none 0 0, .string V5, .int .i64 (a3 : Int), .bool false, .string ⟨#[]⟩, .int .i64 ((0 : Nat) : Int)]) (by simp [results, Tryd.results24, go_sem, e0, e1, e2, e3, e4, e5, e6, e7, e8, e9]) rfl ⟨_, rfl, LZ.fin hAw1 hQ0 (by omega) hg ?_ (fun e => by cases e)⟩
        exact Aw.ten' rfl rfl rfl rfl rfl rfl rfl rfl rfl rfl
    case false =>
      rw [isB_nx (by decide), hC] at hR
      have hlt := nx_lt (p := a4) HL.out (show (32 : Int) ≠ 0 by decide)
      rw [hC] at hlt
      clear HR hC
      cases hq : (C == 32)
      case false =>
        simp only [hq, Bool.false_eq_true, if_false] at hR
        obtain ⟨hRow, rfl, rfl⟩ : _ ∧ a4 = a' ∧ false = no' := by injection hR with e1 e2; injection e2 with e3 e4; exact ⟨e1, e3, e4⟩
        have HRow := Lib.hid hRow
        have HN3 := Lib.hid (HN.out rfl)
        clear hR hRow hlt
        go_wp2_with (first
          | (go_at_call 22; (with_reducible refine (kW _ hY.sr).mono ?_); rintro e w6 ⟨rfl, h6, hA6⟩; have L6 := hY.scan h6 hA6; obtain ⟨⟨c0, c1, c2⟩, _⟩ := L6.sr.facts; obtain ⟨_, r0, r1, r2, r3, r4, r5, r6, r7, r8, r9⟩ := L6.rw_.facts; have L7 := L6.pos_ a3)
          | (go_at_call 37; (with_reducible refine (kD _ L7.sr).mono ?_); rintro e w8 ⟨rfl, h8, hA8⟩; have L8 := L7.scan h8 hA8; obtain ⟨_, r0, r1, r2, r3, r4, r5, r6, r7, r8, r9⟩ := L8.rw_.facts; have L9 := L8.text_ V5)
          | (go_at_call 21; (with_reducible refine (kN4 _ L9.sr).mono ?_); rintro e w10 ⟨rfl, q1, rfl⟩; have LZ := L9.drewN q1; obtain ⟨⟨c0, c1, c2⟩, _⟩ := LZ.sr.facts; obtain ⟨⟨d0, d1, d2, d3, d4, d5, d6, d7, d8, d9⟩, _⟩ := LZ.rw_.facts; obtain ⟨⟨e0, e1, e2, e3, e4, e5, e6, e7, e8, e9⟩, v0, v1, v2, v3, v4, v5, v6, v7, v8, v9⟩ := Rw.facts (Blk.aw hQ0 LZ.aw hqg)))
        refine bodyPost_ret (v := .agg #[.int .i64 0, .string V1, .int .i64 (a : Int), .slice tA tags.length tc, .slice none 0 0, .string V5, .int .i64 (a3 : Int), .bool false, .string ⟨#[]⟩, .int .i64 ((0 : Nat) : Int)]) (by simp [results, Tryd.results24, go_sem, e0, e1, e2, e3, e4, e5, e6, e7, e8, e9]) rfl ⟨_, rfl, LZ.fin hAw1 hQ0 (by omega) hg ?_ (fun _ => by rw [← HRow.out, HT.out HN3.out]; rfl)⟩
        exact Aw.ten' rfl rfl rfl rfl rfl rfl rfl rfl rfl rfl
      case true =>
        simp only [hq, if_true] at hR
        have hlt := hlt (by simpa using hq)
        obtain ⟨a6, n6, h6⟩ : ∃ a6 n6, decS s.data.toList (a4 + 1) false = (a6, n6) := ⟨_, _, rfl⟩
        rw [h6] at hR
        dsimp only at hR
        have hl6 := decS_le s.data.toList (a4 + 1) false (by rw [HL.out]; omega)
        rw [h6, HL.out] at hl6
        simp only at hl6
        obtain ⟨hRow, rfl, rfl⟩ : _ ∧ a6 = a' ∧ n6 = no' := by injection hR with e1 e2; injection e2 with e3 e4; exact ⟨e1, e3, e4⟩
        have kM := fun W h => number_dec g s (a4 + 1) false a6 n6 W h hlt hs h6
        generalize mkS (cutL s.data.toList (a4 + 1) a6) = VT at kM hRow
        obtain ⟨p1, hp1⟩ : ∃ p1, p1 = a4 + 1 := ⟨_, rfl⟩
        rw [← hp1] at kM hRow
        have HRow := Lib.hid hRow
        have HN3 := Lib.hid (HN.out rfl)
        clear hR h6 hRow
        go_upto_region 13 with (first
          | (go_at_call 22; (with_reducible refine (kW _ hY.sr).mono ?_); rintro e w6 ⟨rfl, h6, hA6⟩; have L6 := hY.scan h6 hA6; obtain ⟨⟨c0, c1, c2⟩, _⟩ := L6.sr.facts; obtain ⟨_, r0, r1, r2, r3, r4, r5, r6, r7, r8, r9⟩ := L6.rw_.facts; have L7 := L6.pos_ a3)
          | (go_at_call 37; (with_reducible refine (kD _ L7.sr).mono ?_); rintro e w8 ⟨rfl, h8, hA8⟩; have L8 := L7.scan h8 hA8; obtain ⟨_, r0, r1, r2, r3, r4, r5, r6, r7, r8, r9⟩ := L8.rw_.facts; have L9 := L8.text_ V5)
          | (go_at_call 21; (with_reducible refine (kN4 _ L9.sr).mono ?_); rintro e w10 ⟨rfl, q1, rfl⟩; have L10 := L9.drewN q1; obtain ⟨⟨c0, c1, c2⟩, o1, o2⟩ := L10.sr.facts; have L11 := L10.at1))
        rw [← hp1] at L11
        clear hp1
        revert L11
        generalize World.setCell _ _ _ = W11
        intro L11
        clear L10 L9 L8 L7 L6 hY h6 hA6 h8 hA8 r0 r1 r2 r3 r4 r5 r6 r7 r8 r9 c0 c1 c2 o1 o2 kN4 kW kD
        obtain ⟨⟨c0, c1, c2⟩, o1, o2⟩ := L11.sr.facts
        obtain ⟨_, r0, r1, r2, r3, r4, r5, r6, r7, r8, r9⟩ := L11.rw_.facts
        have L12 := (L11.timed_ true).when_ p1
        go_wp2_with (go_at_call 37; (with_reducible refine (kM _ L12.sr).mono ?_); rintro e w14 ⟨rfl, h14, hA14⟩; have L14 := L12.scan h14 hA14; obtain ⟨_, r0, r1, r2, r3, r4, r5, r6, r7, r8, r9⟩ := L14.rw_.facts; have LZ := L14.time_ VT; obtain ⟨⟨d0, d1, d2, d3, d4, d5, d6, d7, d8, d9⟩, _⟩ := LZ.rw_.facts; obtain ⟨⟨e0, e1, e2, e3, e4, e5, e6, e7, e8, e9⟩, v0, v1, v2, v3, v4, v5, v6, v7, v8, v9⟩ := Rw.facts (Blk.aw hQ0 LZ.aw hqg))
        refine bodyPost_ret (v := .agg #[.int .i64 0, .string V1, .int .i64 (a : Int), .slice tA tags.length tc, .slice none 0 0, .string V5, .int .i64 (a3 : Int), .bool true, .string VT, .int .i64 (p1 : Int)]) (by simp [results, Tryd.results24, go_sem, e0, e1, e2, e3, e4, e5, e6, e7, e8, e9]) rfl ⟨_, rfl, LZ.fin hAw1 hQ0 (by omega) hg ?_ (fun _ => by rw [← HRow.out, HT.out HN3.out])⟩
        exact Aw.ten' rfl rfl rfl rfl rfl rfl rfl rfl rfl rfl

  case true =>
    cases n1
    case true =>
      simp only [isB_no, Bool.false_eq_true, if_false] at h2
      obtain ⟨rfl, rfl, rfl⟩ : [] = T ∧ a1 = a2 ∧ true = n2 := by injection h2 with e1 e2; injection e2 with e3 e4; exact ⟨e1, e3, e4⟩
      clear h2 hC
      go_upto_region 8 with (go_at_call 21; (with_reducible refine (kN1 _ L5.sr).mono ?_); rintro e w6 ⟨rfl, q1, rfl⟩; have L6 := L5.drewN q1)
      generalize W5.drewN q1 = W6 at L6 ⊢
      have hY' : ∃ tv tags, QX w1 W6 g w1.heap.size s a1 true 0 V1 a tv tags ⟨#[]⟩ 0 false ⟨#[]⟩ 0 ∧ (true = false → tags = []) := ⟨_, _, L6, fun _ => rfl⟩
      clear L6
      obtain ⟨tv, tags, hY, hT⟩ := hY'
      have HT := Lib.hid hT
      clear L5 H2 hT kN1 c0 c1 c2 f1 f2
      obtain ⟨tA, tc, rfl⟩ := own_form hY.tg
      have hqg : q ∉ [g] := by simp; omega
      generalize hC : bt s.data.toList a4 = C at kN4
      have hR := HR.out
      cases n4
      case true =>
        simp only [isB_no, Bool.false_eq_true, if_false] at hR
        obtain ⟨_, rfl, rfl⟩ : True ∧ a4 = a' ∧ true = no' := by injection hR with e1 e2; injection e2 with e3 e4; exact ⟨trivial, e3, e4⟩
        clear hR HR HT hC
        cases hq : (C == 32)
        all_goals
          go_wp2_with (first
            | (go_at_call 22; (with_reducible refine (kW _ hY.sr).mono ?_); rintro e w6 ⟨rfl, h6, hA6⟩; have L6 := hY.scan h6 hA6; obtain ⟨⟨c0, c1, c2⟩, _⟩ := L6.sr.facts; obtain ⟨_, r0, r1, r2, r3, r4, r5, r6, r7, r8, r9⟩ := L6.rw_.facts; have L7 := L6.pos_ a3)
            | (go_at_call 37; (with_reducible refine (kD _ L7.sr).mono ?_); rintro e w8 ⟨rfl, h8, hA8⟩; have L8 := L7.scan h8 hA8; obtain ⟨_, r0, r1, r2, r3, r4, r5, r6, r7, r8, r9⟩ := L8.rw_.facts; have L9 := L8.text_ V5)
            | (go_at_call 21; (with_reducible refine (kN4 _ L9.sr).mono ?_); rintro e w10 ⟨rfl, q1, rfl⟩; have LZ := L9.drewN q1; obtain ⟨⟨c0, c1, c2⟩, _⟩ := LZ.sr.facts; obtain ⟨⟨d0, d1, d2, d3, d4, d5, d6, d7, d8, d9⟩, _⟩ := LZ.rw_.facts; obtain ⟨⟨e0, e1, e2, e3, e4, e5, e6, e7, e8, e9⟩, v0, v1, v2, v3, v4, v5, v6, v7, v8, v9⟩ := Rw.facts (Blk.aw hQ0 LZ.aw hqg)))
          refine bodyPost_ret (v := .agg #[.int .i64 0, .string V1, .int .i64 (a : Int), .slice tA tags.length tc, .slice none 0 0, .string V5, .int .i64 (a3 : Int), .bool false, .string ⟨#[]⟩, .int .i64 ((0 : Nat) : Int)]) (by simp [results, Tryd.results24, go_sem, e0, e1, e2, e3, e4, e5, e6, e7, e8, e9]) rfl ⟨_, rfl, LZ.fin hAw1 hQ0 (by omega) hg ?_ (fun e => by cases e)⟩
          exact Aw.ten' rfl rfl rfl rfl rfl rfl rfl rfl rfl rfl
      case false =>
        rw [isB_nx (by decide), hC] at hR
        have hlt := nx_lt (p := a4) HL.out (show (32 : Int) ≠ 0 by decide)
        rw [hC] at hlt
        clear HR hC
        cases hq : (C == 32)
        case false =>
          simp only [hq, Bool.false_eq_true, if_false] at hR
          obtain ⟨hRow, rfl, rfl⟩ : _ ∧ a4 = a' ∧ false = no' := by injection hR with e1 e2; injection e2 with e3 e4; exact ⟨e1, e3, e4⟩
          have HRow := Lib.hid hRow
          have HN3 := Lib.hid (HN.out rfl)
          clear hR hRow hlt
          go_wp2_with (first
            | (go_at_call 22; (with_reducible refine (kW _ hY.sr).mono ?_); rintro e w6 ⟨rfl, h6, hA6⟩; have L6 := hY.scan h6 hA6; obtain ⟨⟨c0, c1, c2⟩, _⟩ := L6.sr.facts; obtain ⟨_, r0, r1, r2, r3, r4, r5, r6, r7, r8, r9⟩ := L6.rw_.facts; have L7 := L6.pos_ a3)
            | (go_at_call 37; (with_reducible refine (kD _ L7.sr).mono ?_); rintro e w8 ⟨rfl, h8, hA8⟩; have L8 := L7.scan h8 hA8; obtain ⟨_, r0, r1, r2, r3, r4, r5, r6, r7, r8, r9⟩ := L8.rw_.facts; have L9 := L8.text_ V5)
            | (go_at_call 21; (with_reducible refine (kN4 _ L9.sr).mono ?_); rintro e w10 ⟨rfl, q1, rfl⟩; have LZ := L9.drewN q1; obtain ⟨⟨c0, c1, c2⟩, _⟩ := LZ.sr.facts; obtain ⟨⟨d0, d1, d2, d3, d4, d5, d6, d7, d8, d9⟩, _⟩ := LZ.rw_.facts; obtain ⟨⟨e0, e1, e2, e3, e4, e5, e6, e7, e8, e9⟩, v0, v1, v2, v3, v4, v5, v6, v7, v8, v9⟩ := Rw.facts (Blk.aw hQ0 LZ.aw hqg)))
          refine bodyPost_ret (v := .agg #[.int .i64 0, .string V1, .int .i64 (a : Int), .slice tA tags.length tc, .slice none 0 0, .string V5, .int .i64 (a3 : Int), .bool false, .string ⟨#[]⟩, .int .i64 ((0 : Nat) : Int)]) (by simp [results, Tryd.results24, go_sem, e0, e1, e2, e3, e4, e5, e6, e7, e8, e9]) rfl ⟨_, rfl, LZ.fin hAw1 hQ0 (by omega) hg ?_ (fun _ => by rw [← HRow.out, HT.out HN3.out]; rfl)⟩
          exact Aw.ten' rfl rfl rfl rfl rfl rfl rfl rfl rfl rfl
        case true =>
          simp only [hq, if_true] at hR
          have hlt := hlt (by simpa using hq)
          obtain ⟨a6, n6, h6⟩ : ∃ a6 n6, decS s.data.toList (a4 + 1) false = (a6, n6) := ⟨_, _, rfl⟩
          rw [h6] at hR
          dsimp only at hR
          have hl6 := decS_le s.data.toList (a4 + 1) false (by rw [HL.out]; omega)
          rw [h6, HL.out] at hl6
          simp only at hl6
          obtain ⟨hRow, rfl, rfl⟩ : _ ∧ a6 = a' ∧ n6 = no' := by injection hR with e1 e2; injection e2 with e3 e4; exact ⟨e1, e3, e4⟩
          have kM := fun W h => number_dec g s (a4 + 1) false a6 n6 W h hlt hs h6
          generalize mkS (cutL s.data.toList (a4 + 1) a6) = VT at kM hRow
          obtain ⟨p1, hp1⟩ : ∃ p1, p1 = a4 + 1 := ⟨_, rfl⟩
          rw [← hp1] at kM hRow
          have HRow := Lib.hid hRow
          have HN3 := Lib.hid (HN.out rfl)
          clear hR h6 hRow
          go_upto_region 13 with (first
            | (go_at_call 22; (with_reducible refine (kW _ hY.sr).mono ?_); rintro e w6 ⟨rfl, h6, hA6⟩; have L6 := hY.scan h6 hA6; obtain ⟨⟨c0, c1, c2⟩, _⟩ := L6.sr.facts; obtain ⟨_, r0, r1, r2, r3, r4, r5, r6, r7, r8, r9⟩ := L6.rw_.facts; have L7 := L6.pos_ a3)
            | (go_at_call 37; (with_reducible refine (kD _ L7.sr).mono ?_); rintro e w8 ⟨rfl, h8, hA8⟩; have L8 := L7.scan h8 hA8; obtain ⟨_, r0, r1, r2, r3, r4, r5, r6, r7, r8, r9⟩ := L8.rw_.facts; have L9 := L8.text_ V5)
            | (go_at_call 21; (with_reducible refine (kN4 _ L9.sr).mono ?_); rintro e w10 ⟨rfl, q1, rfl⟩; have L10 := L9.drewN q1; obtain ⟨⟨c0, c1, c2⟩, o1, o2⟩ := L10.sr.facts; have L11 := L10.at1))
          rw [← hp1] at L11
          clear hp1
          revert L11
          generalize World.setCell _ _ _ = W11
          intro L11
          clear L10 L9 L8 L7 L6 hY h6 hA6 h8 hA8 r0 r1 r2 r3 r4 r5 r6 r7 r8 r9 c0 c1 c2 o1 o2 kN4 kW kD
          obtain ⟨⟨c0, c1, c2⟩, o1, o2⟩ := L11.sr.facts
          obtain ⟨_, r0, r1, r2, r3, r4, r5, r6, r7, r8, r9⟩ := L11.rw_.facts
          have L12 := (L11.timed_ true).when_ p1
          go_wp2_with (go_at_call 37; (with_reducible refine (kM _ L12.sr).mono ?_); rintro e w14 ⟨rfl, h14, hA14⟩; have L14 := L12.scan h14 hA14; obtain ⟨_, r0, r1, r2, r3, r4, r5, r6, r7, r8, r9⟩ := L14.rw_.facts; have LZ := L14.time_ VT; obtain ⟨⟨d0, d1, d2, d3, d4, d5, d6, d7, d8, d9⟩, _⟩ := LZ.rw_.facts; obtain ⟨⟨e0, e1, e2, e3, e4, e5, e6, e7, e8, e9⟩, v0, v1, v2, v3, v4, v5, v6, v7, v8, v9⟩ := Rw.facts (Blk.aw hQ0 LZ.aw hqg))
          refine bodyPost_ret (v := .agg #[.int .i64 0, .string V1, .int .i64 (a : Int), .slice tA tags.length tc, .slice none 0 0, .string V5, .int .i64 (a3 : Int), .bool true, .string VT, .int .i64 (p1 : Int)]) (by simp [results, Tryd.results24, go_sem, e0, e1, e2, e3, e4, e5, e6, e7, e8, e9]) rfl ⟨_, rfl, LZ.fin hAw1 hQ0 (by omega) hg ?_ (fun _ => by rw [← HRow.out, HT.out HN3.out])⟩
          exact Aw.ten' rfl rfl rfl rfl rfl rfl rfl rfl rfl rfl

    case false =>
      rw [isB_nx (by decide), hC, hq] at h2
      simp only [if_true] at h2
      go_upto_if 21 with (go_at_call 21; (with_reducible refine (kN1 _ L5.sr).mono ?_); rintro e w6 ⟨rfl, q1, rfl⟩; have L6 := L5.drewN q1; obtain ⟨⟨t0, t1, t2⟩, o1, o2⟩ := L6.sr.facts)
      go_cut [] from 12 to 40 (fun wx => ∃ tv tags, QX w1 wx g w1.heap.size s a2 n2 0 V1 a tv tags ⟨#[]⟩ 0 false ⟨#[]⟩ 0 ∧ (n2 = false → tags = T))
      case first =>
        have L7 := L6.at1
        go_upto_region 5 with fail
        revert L7
        generalize World.setCell _ _ _ = W7
        intro L7
        obtain ⟨⟨p0, p1, p2⟩, _⟩ := L7.sr.facts
        have hlt := nx_lt (p := a1) HL.out (show (123 : Int) ≠ 0 by decide) (by rw [hC]; simpa using hq)
        have kN2 := fun W h => next_any g s (a1 + 1) false W h hs2 hlt
        rw [isB_nx (by decide)] at h2
        have h3 : ∀ T1 a3' n3', otagsGo s.data.toList (s.data.toList.length + 1) (a1 + 1) false [] = (T1, a3', n3') → (bt s.data.toList (a1 + 1) == 125) = false → T1 = T ∧ wordS s.data.toList [125] a3' n3' = (a2, n2) := fun T1 a3' n3' e hq2 => by
          simp only [hq2, Bool.false_eq_true, if_false, e] at h2
          injection h2 with e1 e2
          exact ⟨e1, e2⟩
        generalize hC2 : bt s.data.toList (a1 + 1) = C2 at kN2 h2 h3
        clear hC2
        cases hq2 : (C2 == 125)
        case true =>
          simp only [hq2, if_true] at h2
          obtain ⟨rfl, rfl, rfl⟩ : [] = T ∧ a1 + 2 = a2 ∧ false = n2 := by injection h2 with e1 e2; injection e2 with e3 e4; exact ⟨e1, e3, e4⟩
          clear h2 h3
          go_wp2_with (first
            | (go_at_call 21; (with_reducible refine (kN2 _ L7.sr).mono ?_); rintro e w8 ⟨rfl, q2, rfl⟩; have L8 := L7.drewN q2; obtain ⟨⟨s0, s1, s2⟩, o3, o4⟩ := L8.sr.facts; have L9 := L8.at1))
          go_meet
          exact ⟨_, _, L9, fun _ => rfl⟩
        case false =>
          obtain ⟨T1, a3', n3', e⟩ : ∃ T1 a3' n3', otagsGo s.data.toList (s.data.toList.length + 1) (a1 + 1) false [] = (T1, a3', n3') := ⟨_, _, _, rfl⟩
          obtain ⟨rfl, hw⟩ := h3 _ _ _ e hq2
          have kT := fun W h => tags17_any g w1.heap.size s (a1 + 1) T1 a3' n3' a2 n2 0 V1 a ⟨#[]⟩ 0 false ⟨#[]⟩ 0 w1 W h hlt hs e hw
          clear h2 h3 e hw
          go_wp2_with (first
            | (go_at_call 21; (with_reducible refine (kN2 _ L7.sr).mono ?_); rintro e w8 ⟨rfl, q2, rfl⟩; have L8 := L7.drewN q2)
            | (go_at_call 36; refine (kT _ L8).mono ?_; rintro e w9 ⟨rfl, tv, tags, L9, hT9⟩))
          go_meet
          exact ⟨_, _, L9, hT9⟩
      case rest =>
        obtain ⟨tv, tags, hY, hT⟩ := hcut
        clear L6 t0 t1 t2 o1 o2 hC h2
        have HT := Lib.hid hT
        clear L5 H2 hT kN1 c0 c1 c2 f1 f2
        obtain ⟨tA, tc, rfl⟩ := own_form hY.tg
        have hqg : q ∉ [g] := by simp; omega
        generalize hC : bt s.data.toList a4 = C at kN4
        have hR := HR.out
        cases n4
        case true =>
          simp only [isB_no, Bool.false_eq_true, if_false] at hR
          obtain ⟨_, rfl, rfl⟩ : True ∧ a4 = a' ∧ true = no' := by injection hR with e1 e2; injection e2 with e3 e4; exact ⟨trivial, e3, e4⟩
          clear hR HR HT hC
          cases hq : (C == 32)
          all_goals
            go_wp2_with (first
              | (go_at_call 22; (with_reducible refine (kW _ hY.sr).mono ?_); rintro e w6 ⟨rfl, h6, hA6⟩; have L6 := hY.scan h6 hA6; obtain ⟨⟨c0, c1, c2⟩, _⟩ := L6.sr.facts; obtain ⟨_, r0, r1, r2, r3, r4, r5, r6, r7, r8, r9⟩ := L6.rw_.facts; have L7 := L6.pos_ a3)
              | (go_at_call 37; (with_reducible refine (kD _ L7.sr).mono ?_); rintro e w8 ⟨rfl, h8, hA8⟩; have L8 := L7.scan h8 hA8; obtain ⟨_, r0, r1, r2, r3, r4, r5, r6, r7, r8, r9⟩ := L8.rw_.facts; have L9 := L8.text_ V5)
              | (go_at_call 21; (with_reducible refine (kN4 _ L9.sr).mono ?_); rintro e w10 ⟨rfl, q1, rfl⟩; have LZ := L9.drewN q1; obtain ⟨⟨c0, c1, c2⟩, _⟩ := LZ.sr.facts; obtain ⟨⟨d0, d1, d2, d3, d4, d5, d6, d7, d8, d9⟩, _⟩ := LZ.rw_.facts; obtain ⟨⟨e0, e1, e2, e3, e4, e5, e6, e7, e8, e9⟩, v0, v1, v2, v3, v4, v5, v6, v7, v8, v9⟩ := Rw.facts (Blk.aw hQ0 LZ.aw hqg)))
            refine bodyPost_ret (v := .agg #[.int .i64 0, .string V1, .int .i64 (a : Int), .slice tA tags.length tc, .slice none 0 0, .string V5, .int .i64 (a3 : Int), .bool false, .string ⟨#[]⟩, .int .i64 ((0 : Nat) : Int)]) (by simp [results, Tryd.results24, go_sem, e0, e1, e2, e3, e4, e5, e6, e7, e8, e9]) rfl ⟨_, rfl, LZ.fin hAw1 hQ0 (by omega) hg ?_ (fun e => by cases e)⟩
            exact Aw.ten' rfl rfl rfl rfl rfl rfl rfl rfl rfl rfl
        case false =>
          rw [isB_nx (by decide), hC] at hR
          have hlt := nx_lt (p := a4) HL.out (show (32 : Int) ≠ 0 by decide)
          rw [hC] at hlt
          clear HR hC
          cases hq : (C == 32)
          case false =>
            simp only [hq, Bool.false_eq_true, if_false] at hR
            obtain ⟨hRow, rfl, rfl⟩ : _ ∧ a4 = a' ∧ false = no' := by injection hR with e1 e2; injection e2 with e3 e4; exact ⟨e1, e3, e4⟩
            have HRow := Lib.hid hRow
            have HN3 := Lib.hid (HN.out rfl)
            clear hR hRow hlt
            go_wp2_with (first
              | (go_at_call 22; (with_reducible refine (kW _ hY.sr).mono ?_); rintro e w6 ⟨rfl, h6, hA6⟩; have L6 := hY.scan h6 hA6; obtain ⟨⟨c0, c1, c2⟩, _⟩ := L6.sr.facts; obtain ⟨_, r0, r1, r2, r3, r4, r5, r6, r7, r8, r9⟩ := L6.rw_.facts; have L7 := L6.pos_ a3)
              | (go_at_call 37; (with_reducible refine (kD _ L7.sr).mono ?_); rintro e w8 ⟨rfl, h8, hA8⟩; have L8 := L7.scan h8 hA8; obtain ⟨_, r0, r1, r2, r3, r4, r5, r6, r7, r8, r9⟩ := L8.rw_.facts; have L9 := L8.text_ V5)
              | (go_at_call 21; (with_reducible refine (kN4 _ L9.sr).mono ?_); rintro e w10 ⟨rfl, q1, rfl⟩; have LZ := L9.drewN q1; obtain ⟨⟨c0, c1, c2⟩, _⟩ := LZ.sr.facts; obtain ⟨⟨d0, d1, d2, d3, d4, d5, d6, d7, d8, d9⟩, _⟩ := LZ.rw_.facts; obtain ⟨⟨e0, e1, e2, e3, e4, e5, e6, e7, e8, e9⟩, v0, v1, v2, v3, v4, v5, v6, v7, v8, v9⟩ := Rw.facts (Blk.aw hQ0 LZ.aw hqg)))
            refine bodyPost_ret (v := .agg #[.int .i64 0, .string V1, .int .i64 (a : Int), .slice tA tags.length tc, .slice none 0 0, .string V5, .int .i64 (a3 : Int), .bool false, .string ⟨#[]⟩, .int .i64 ((0 : Nat) : Int)]) (by simp [results, Tryd.results24, go_sem, e0, e1, e2, e3, e4, e5, e6, e7, e8, e9]) rfl ⟨_, rfl, LZ.fin hAw1 hQ0 (by omega) hg ?_ (fun _ => by rw [← HRow.out, HT.out HN3.out]; rfl)⟩
            exact Aw.ten' rfl rfl rfl rfl rfl rfl rfl rfl rfl rfl
          case true =>
            simp only [hq, if_true] at hR
            have hlt := hlt (by simpa using hq)
            obtain ⟨a6, n6, h6⟩ : ∃ a6 n6, decS s.data.toList (a4 + 1) false = (a6, n6) := ⟨_, _, rfl⟩
            rw [h6] at hR
            dsimp only at hR
            have hl6 := decS_le s.data.toList (a4 + 1) false (by rw [HL.out]; omega)
            rw [h6, HL.out] at hl6
            simp only at hl6
            obtain ⟨hRow, rfl, rfl⟩ : _ ∧ a6 = a' ∧ n6 = no' := by injection hR with e1 e2; injection e2 with e3 e4; exact ⟨e1, e3, e4⟩
            have kM := fun W h => number_dec g s (a4 + 1) false a6 n6 W h hlt hs h6
            generalize mkS (cutL s.data.toList (a4 + 1) a6) = VT at kM hRow
            obtain ⟨p1, hp1⟩ : ∃ p1, p1 = a4 + 1 := ⟨_, rfl⟩
            rw [← hp1] at kM hRow
            have HRow := Lib.hid hRow
            have HN3 := Lib.hid (HN.out rfl)
            clear hR h6 hRow
            go_upto_region 13 with (first
              | (go_at_call 22; (with_reducible refine (kW _ hY.sr).mono ?_); rintro e w6 ⟨rfl, h6, hA6⟩; have L6 := hY.scan h6 hA6; obtain ⟨⟨c0, c1, c2⟩, _⟩ := L6.sr.facts; obtain ⟨_, r0, r1, r2, r3, r4, r5, r6, r7, r8, r9⟩ := L6.rw_.facts; have L7 := L6.pos_ a3)
              | (go_at_call 37; (with_reducible refine (kD _ L7.sr).mono ?_); rintro e w8 ⟨rfl, h8, hA8⟩; have L8 := L7.scan h8 hA8; obtain ⟨_, r0, r1, r2, r3, r4, r5, r6, r7, r8, r9⟩ := L8.rw_.facts; have L9 := L8.text_ V5)
              | (go_at_call 21; (with_reducible refine (kN4 _ L9.sr).mono ?_); rintro e w10 ⟨rfl, q1, rfl⟩; have L10 := L9.drewN q1; obtain ⟨⟨c0, c1, c2⟩, o1, o2⟩ := L10.sr.facts; have L11 := L10.at1))
            rw [← hp1] at L11
            clear hp1
            revert L11
            generalize World.setCell _ _ _ = W11
            intro L11
            clear L10 L9 L8 L7 L6 hY h6 hA6 h8 hA8 r0 r1 r2 r3 r4 r5 r6 r7 r8 r9 c0 c1 c2 o1 o2 kN4 kW kD
            obtain ⟨⟨c0, c1, c2⟩, o1, o2⟩ := L11.sr.facts
            obtain ⟨_, r0, r1, r2, r3, r4, r5, r6, r7, r8, r9⟩ := L11.rw_.facts
            have L12 := (L11.timed_ true).when_ p1
            go_wp2_with (go_at_call 37; (with_reducible refine (kM _ L12.sr).mono ?_); rintro e w14 ⟨rfl, h14, hA14⟩; have L14 := L12.scan h14 hA14; obtain ⟨_, r0, r1, r2, r3, r4, r5, r6, r7, r8, r9⟩ := L14.rw_.facts; have LZ := L14.time_ VT; obtain ⟨⟨d0, d1, d2, d3, d4, d5, d6, d7, d8, d9⟩, _⟩ := LZ.rw_.facts; obtain ⟨⟨e0, e1, e2, e3, e4, e5, e6, e7, e8, e9⟩, v0, v1, v2, v3, v4, v5, v6, v7, v8, v9⟩ := Rw.facts (Blk.aw hQ0 LZ.aw hqg))
            refine bodyPost_ret (v := .agg #[.int .i64 0, .string V1, .int .i64 (a : Int), .slice tA tags.length tc, .slice none 0 0, .string V5, .int .i64 (a3 : Int), .bool true, .string VT, .int .i64 (p1 : Int)]) (by simp [results, Tryd.results24, go_sem, e0, e1, e2, e3, e4, e5, e6, e7, e8, e9]) rfl ⟨_, rfl, LZ.fin hAw1 hQ0 (by omega) hg ?_ (fun _ => by rw [← HRow.out, HT.out HN3.out])⟩
            exact Aw.ten' rfl rfl rfl rfl rfl rfl rfl rfl rfl rfl

/-- What is told of a family, without its line feed. -/
def toldP (l : List UInt8) (kind : Nat) (word : List UInt8) (a : Nat) (no : Bool) : MRow × Nat × Bool :=
  let w := wordS l word a no
  let n := nmS l owName w.1 w.2
  let b := wordS l [32] n.1 n.2
  let t := otextS l kind b.1 b.2
  (⟨kind, mkS (cutL l w.1 n.1), w.1, [], [], mkS t.1, b.1, false, mkS [], 0⟩, t.2)
theorem otoldS_P (l : List UInt8) (kind : Nat) (word : List UInt8) (a : Nat) (no : Bool) : otoldS l kind word a no = ((toldP l kind word a no).1, wordS l [10] (toldP l kind word a no).2.1 (toldP l kind word a no).2.2) := rfl
set_option maxRecDepth 100000 in
set_option maxHeartbeats 12800000 in
theorem told17_type (g : Nat) (s : ByteArray) (a : Nat) (R : MRow) (a' : Nat) (no' : Bool) (w : World) (h : Sr w g s a false) (ha : a ≤ s.size) (hs : s.size ≤ 1048576) (hc : bt s.data.toList a = 84) (hR : toldP s.data.toList 1 wType a false = (R, a', no')) :
    Calls Tryd.prog 23 #[.pointer (some ⟨g, 0, none⟩)] w fun e w' => ∃ v, e = .returned (.tuple #[v, .bool (!no')]) ∧ RowT R no' w.heap.size v w' ∧ Sr w' g s a' no' ∧ Aw [g] w w' := by
  have hL : s.data.toList.length = s.size := by simp
  have hs2 : s.size ≤ 4611686018427387904 := Nat.le_trans hs (by decide)
  have hg := h.lt
  obtain ⟨a1, n1, h1⟩ : ∃ a1 n1, wordS s.data.toList wType a false = (a1, n1) := ⟨_, _, rfl⟩
  obtain ⟨a2, n2, h2⟩ : ∃ a2 n2, nmS s.data.toList owName a1 n1 = (a2, n2) := ⟨_, _, rfl⟩
  obtain ⟨a3, n3, h3⟩ : ∃ a3 n3, wordS s.data.toList [32] a2 n2 = (a3, n3) := ⟨_, _, rfl⟩
  obtain ⟨a4, n4, h4⟩ : ∃ a4 n4, someS s.data.toList smB a3 n3 = (a4, n4) := ⟨_, _, rfl⟩
  have hot : otextS s.data.toList 1 a3 n3 = (cutL s.data.toList a3 a4, a4, n4) := by unfold otextS; simp [h4]
  have hl1 := wordS_le s.data.toList wType a false (by rw [hL]; exact ha)
  rw [h1, hL] at hl1
  have hl2 := nmS_le (l := s.data.toList) owName n1 (by rw [hL]; exact hl1.2)
  rw [h2, hL] at hl2
  have hl3 := wordS_le s.data.toList [32] a2 n2 (by rw [hL]; exact hl2.2)
  rw [h3, hL] at hl3
  simp only at hl1 hl2 hl3
  unfold toldP at hR
  simp only [h1, h2, h3, hot] at hR
  have kN := fun W h => next_any g s a false W h hs2 ha
  rw [hc] at kN
  have k1 := fun W h => lit_any g s ⟨#[84, 89, 80, 69, 32]⟩ a false a1 n1 W h ha hs (by decide) h1
  have k2 := fun W h => run_nm_name g s a1 n1 a2 n2 W h hl1.2 hs h2
  have k3 := fun W h => lit_any g s ⟨#[32]⟩ a2 n2 a3 n3 W h hl2.2 hs (by decide) h3
  have kT := fun W h => run_small g s a3 n3 a4 n4 W h hl3.2 hs h4
  rw [ext_cut] at kT
  have hn34 : n3 = true → a3 = a4 ∧ true = n4 := fun e => by
    rw [e] at h4
    unfold someS at h4
    simp only [if_true] at h4
    injection h4 with e1 e2
    exact ⟨e1, e2⟩
  generalize mkS (cutL s.data.toList a1 a2) = V1 at k2 hR
  generalize hVT : mkS (cutL s.data.toList a3 a4) = VT at kT hR
  clear hVT
  obtain ⟨hRow, rfl, rfl⟩ : _ ∧ a4 = a' ∧ n4 = no' := by injection hR with e1 e2; injection e2 with e3 e4; exact ⟨e1, e3, e4⟩
  have HRow := Lib.hid hRow
  clear h1 h2 h3 h4 hR hL hot hRow hc
  have hAw1 : Aw [] w (w.alloc (.cells #[.int .i64 0, .string ⟨#[]⟩, .int .i64 0, .slice none 0 0, .slice none 0 0, .string ⟨#[]⟩, .int .i64 0, .bool false, .string ⟨#[]⟩, .int .i64 0] 42)) := (Aw.refl _ _).alloc _
  have hQ0 := Blk.new w 42 #[.int .i64 0, .string ⟨#[]⟩, .int .i64 0, .slice none 0 0, .slice none 0 0, .string ⟨#[]⟩, .int .i64 0, .bool false, .string ⟨#[]⟩, .int .i64 0]
  have hs1 := h.alloc (.cells #[.int .i64 0, .string ⟨#[]⟩, .int .i64 0, .slice none 0 0, .slice none 0 0, .string ⟨#[]⟩, .int .i64 0, .bool false, .string ⟨#[]⟩, .int .i64 0] 42)
  obtain ⟨⟨c0, c1, c2⟩, f1, f2⟩ := h.facts
  go_enter Tryd.func23, Tryd.ntmps23
  go_upto_region 1 with fail
  generalize hw1 : w.alloc (.cells #[.int .i64 0, .string ⟨#[]⟩, .int .i64 0, .slice none 0 0, .slice none 0 0, .string ⟨#[]⟩, .int .i64 0, .bool false, .string ⟨#[]⟩, .int .i64 0] 42) = w1 at hAw1 hQ0 hs1 ⊢
  generalize hq0 : w.heap.size = q at hQ0 ⊢
  clear hw1 c0 c1 c2 f1 f2
  obtain ⟨⟨c0, c1, c2⟩, f1, f2⟩ := hs1.facts
  have hq1 : q < w1.heap.size := Blk.lt hQ0
  have hgl := hs1.lt
  have hqg : q ∉ [g] := by simp; omega
  have hq3 : w.heap.size ≤ q := by omega
  clear hq0
  have L1 : QX w1 (w1.alloc (.cells #[.int .i64 0, .string ⟨#[]⟩, .int .i64 0, .slice none 0 0, .slice none 0 0, .string ⟨#[]⟩, .int .i64 0, .bool false, .string ⟨#[]⟩, .int .i64 0] 42)) g w1.heap.size s a false 0 ⟨#[]⟩ 0 (.slice none 0 0) [] ⟨#[]⟩ 0 false ⟨#[]⟩ 0 :=
    ⟨hs1.alloc _, by
      have := Blk.new w1 42 #[.int .i64 0, .string ⟨#[]⟩, .int .i64 0, .slice none 0 0, .slice none 0 0, .string ⟨#[]⟩, .int .i64 0, .bool false, .string ⟨#[]⟩, .int .i64 0]
      simpa [Rw] using this, World.ownsRow_nil _ _ _ _, hs1.lt, Nat.le_refl _, (Aw.refl _ _).alloc _⟩
  go_upto_region 24 with (first
    | (go_at_call 21; (with_reducible refine (kN _ L1.sr).mono ?_); rintro e w2 ⟨rfl, q1, rfl⟩; have L2 := L1.drewN q1; obtain ⟨_, r0, r1, r2, r3, r4, r5, r6, r7, r8, r9⟩ := L2.rw_.facts; have L3 := L2.kind_ 1 (u := .int .i64 1) rfl)
    | (go_at_call 22; (with_reducible refine (k1 _ L3.sr).mono ?_); rintro e w4 ⟨rfl, h4, hA4⟩; have L4 := L3.scan h4 hA4; obtain ⟨⟨c0, c1, c2⟩, _⟩ := L4.sr.facts; obtain ⟨_, r0, r1, r2, r3, r4, r5, r6, r7, r8, r9⟩ := L4.rw_.facts; have L5 := L4.off_ a1)
    | (go_at_call 34; (with_reducible refine (k2 _ L5.sr).mono ?_); rintro e w6 ⟨rfl, h6, hA6⟩; have L6 := L5.scan h6 hA6; obtain ⟨_, r0, r1, r2, r3, r4, r5, r6, r7, r8, r9⟩ := L6.rw_.facts; have L7 := L6.name V1)
    | (go_at_call 22; (with_reducible refine (k3 _ L7.sr).mono ?_); rintro e w8 ⟨rfl, h8, hA8⟩; have L8 := L7.scan h8 hA8; obtain ⟨⟨c0, c1, c2⟩, _⟩ := L8.sr.facts; obtain ⟨_, r0, r1, r2, r3, r4, r5, r6, r7, r8, r9⟩ := L8.rw_.facts; have L9 := L8.pos_ a3))
  revert L9
  generalize World.setCell _ _ _ = W9
  intro L9
  clear L8 L7 L6 L5 L4 L3 L2 L1 kN k1 k2 k3 r0 r1 r2 r3 r4 r5 r6 r7 r8 r9 c0 c1 c2 h4 h6 h8 hA4 hA6 hA8
  cases n3
  case true =>
    obtain ⟨rfl, rfl⟩ := hn34 rfl
    have LZ := L9
    obtain ⟨⟨d0, d1, d2, d3, d4, d5, d6, d7, d8, d9⟩, _⟩ := LZ.rw_.facts
    obtain ⟨⟨e0, e1, e2, e3, e4, e5, e6, e7, e8, e9⟩, v0, v1, v2, v3, v4, v5, v6, v7, v8, v9⟩ := Rw.facts (Blk.aw hQ0 LZ.aw hqg)
    obtain ⟨⟨c0, c1, c2⟩, _⟩ := LZ.sr.facts
    go_wp2_with fail
    go_region
    all_goals
      go_wp2_with fail
      refine bodyPost_ret (v := .tuple #[.agg #[.int .i64 (1 : Nat), .string V1, .int .i64 (a1 : Int), .slice none 0 0, .slice none 0 0, .string ⟨#[]⟩, .int .i64 (a3 : Int), .bool false, .string ⟨#[]⟩, .int .i64 (0 : Nat)], .bool false]) (by simp [results, Tryd.results23, go_sem, e0, e1, e2, e3, e4, e5, e6, e7, e8, e9]) rfl ⟨_, rfl, QX.fin (tags := []) (tA := none) (tc := 0) (R := R) (no := true) LZ hAw1 hQ0 (by omega) hg ?_ (fun e => by cases e)⟩
      first
        | exact Aw.drew (Aw.ten' rfl rfl rfl rfl rfl rfl rfl rfl rfl rfl)
        | exact Aw.trans (Aw.drew (Aw.refl _ _)) (Aw.ten' rfl rfl rfl rfl rfl rfl rfl rfl rfl rfl)
  case false =>
    obtain ⟨⟨d0, d1, d2, d3, d4, d5, d6, d7, d8, d9⟩, _⟩ := L9.rw_.facts
    obtain ⟨⟨c0, c1, c2⟩, _⟩ := L9.sr.facts
    clear hn34
    go_upto_region 29 with (go_at_call 34; (with_reducible refine (kT _ L9.sr).mono ?_); rintro e w10 ⟨rfl, h10, hA10⟩; have L10 := L9.scan h10 hA10; obtain ⟨_, r0, r1, r2, r3, r4, r5, r6, r7, r8, r9⟩ := L10.rw_.facts; have LZ := L10.text_ VT; obtain ⟨⟨d0, d1, d2, d3, d4, d5, d6, d7, d8, d9⟩, _⟩ := LZ.rw_.facts; obtain ⟨⟨e0, e1, e2, e3, e4, e5, e6, e7, e8, e9⟩, v0, v1, v2, v3, v4, v5, v6, v7, v8, v9⟩ := Rw.facts (Blk.aw hQ0 LZ.aw hqg); obtain ⟨⟨c0, c1, c2⟩, _⟩ := LZ.sr.facts)
    revert LZ
    generalize World.setCell _ _ _ = WZ
    intro LZ
    clear L10 L9 h10 hA10 kT
    obtain ⟨⟨d0, d1, d2, d3, d4, d5, d6, d7, d8, d9⟩, _⟩ := LZ.rw_.facts
    obtain ⟨⟨e0, e1, e2, e3, e4, e5, e6, e7, e8, e9⟩, v0, v1, v2, v3, v4, v5, v6, v7, v8, v9⟩ := Rw.facts (Blk.aw hQ0 LZ.aw hqg)
    obtain ⟨⟨c0, c1, c2⟩, _⟩ := LZ.sr.facts
    go_region
    all_goals
      go_wp2_with fail
      refine bodyPost_ret (v := .tuple #[.agg #[.int .i64 (1 : Nat), .string V1, .int .i64 (a1 : Int), .slice none 0 0, .slice none 0 0, .string VT, .int .i64 (a3 : Int), .bool false, .string ⟨#[]⟩, .int .i64 (0 : Nat)], .bool (!n4)]) (by simp [results, Tryd.results23, go_sem, e0, e1, e2, e3, e4, e5, e6, e7, e8, e9]) rfl ⟨_, rfl, QX.fin (tags := []) (tA := none) (tc := 0) (R := R) (no := n4) LZ hAw1 hQ0 (by omega) hg ?_ (fun _ => by rw [← HRow.out]; rfl)⟩
      first
        | exact Aw.drew (Aw.ten' rfl rfl rfl rfl rfl rfl rfl rfl rfl rfl)
        | exact Aw.trans (Aw.drew (Aw.refl _ _)) (Aw.ten' rfl rfl rfl rfl rfl rfl rfl rfl rfl rfl)
set_option maxRecDepth 100000 in
set_option maxHeartbeats 12800000 in
theorem told17_unit (g : Nat) (s : ByteArray) (a : Nat) (R : MRow) (a' : Nat) (no' : Bool) (w : World) (h : Sr w g s a false) (ha : a ≤ s.size) (hs : s.size ≤ 1048576) (hc : bt s.data.toList a = 85) (hR : toldP s.data.toList 2 wUnit a false = (R, a', no')) :
    Calls Tryd.prog 23 #[.pointer (some ⟨g, 0, none⟩)] w fun e w' => ∃ v, e = .returned (.tuple #[v, .bool (!no')]) ∧ RowT R no' w.heap.size v w' ∧ Sr w' g s a' no' ∧ Aw [g] w w' := by
  have hL : s.data.toList.length = s.size := by simp
  have hs2 : s.size ≤ 4611686018427387904 := Nat.le_trans hs (by decide)
  have hg := h.lt
  obtain ⟨a1, n1, h1⟩ : ∃ a1 n1, wordS s.data.toList wUnit a false = (a1, n1) := ⟨_, _, rfl⟩
  obtain ⟨a2, n2, h2⟩ : ∃ a2 n2, nmS s.data.toList owName a1 n1 = (a2, n2) := ⟨_, _, rfl⟩
  obtain ⟨a3, n3, h3⟩ : ∃ a3 n3, wordS s.data.toList [32] a2 n2 = (a3, n3) := ⟨_, _, rfl⟩
  obtain ⟨a4, n4, h4⟩ : ∃ a4 n4, someS s.data.toList owName a3 n3 = (a4, n4) := ⟨_, _, rfl⟩
  have hot : otextS s.data.toList 2 a3 n3 = (cutL s.data.toList a3 a4, a4, n4) := by unfold otextS; simp [h4]
  have hl1 := wordS_le s.data.toList wUnit a false (by rw [hL]; exact ha)
  rw [h1, hL] at hl1
  have hl2 := nmS_le (l := s.data.toList) owName n1 (by rw [hL]; exact hl1.2)
  rw [h2, hL] at hl2
  have hl3 := wordS_le s.data.toList [32] a2 n2 (by rw [hL]; exact hl2.2)
  rw [h3, hL] at hl3
  simp only at hl1 hl2 hl3
  unfold toldP at hR
  simp only [h1, h2, h3, hot] at hR
  have kN := fun W h => next_any g s a false W h hs2 ha
  rw [hc] at kN
  have k1 := fun W h => lit_any g s ⟨#[85, 78, 73, 84, 32]⟩ a false a1 n1 W h ha hs (by decide) h1
  have k2 := fun W h => run_nm_name g s a1 n1 a2 n2 W h hl1.2 hs h2
  have k3 := fun W h => lit_any g s ⟨#[32]⟩ a2 n2 a3 n3 W h hl2.2 hs (by decide) h3
  have kT := fun W h => run_name g s a3 n3 a4 n4 W h hl3.2 hs h4
  rw [ext_cut] at kT
  have hn34 : n3 = true → a3 = a4 ∧ true = n4 := fun e => by
    rw [e] at h4
    unfold someS at h4
    simp only [if_true] at h4
    injection h4 with e1 e2
    exact ⟨e1, e2⟩
  generalize mkS (cutL s.data.toList a1 a2) = V1 at k2 hR
  generalize hVT : mkS (cutL s.data.toList a3 a4) = VT at kT hR
  clear hVT
  obtain ⟨hRow, rfl, rfl⟩ : _ ∧ a4 = a' ∧ n4 = no' := by injection hR with e1 e2; injection e2 with e3 e4; exact ⟨e1, e3, e4⟩
  have HRow := Lib.hid hRow
  clear h1 h2 h3 h4 hR hL hot hRow hc
  have hAw1 : Aw [] w (w.alloc (.cells #[.int .i64 0, .string ⟨#[]⟩, .int .i64 0, .slice none 0 0, .slice none 0 0, .string ⟨#[]⟩, .int .i64 0, .bool false, .string ⟨#[]⟩, .int .i64 0] 42)) := (Aw.refl _ _).alloc _
  have hQ0 := Blk.new w 42 #[.int .i64 0, .string ⟨#[]⟩, .int .i64 0, .slice none 0 0, .slice none 0 0, .string ⟨#[]⟩, .int .i64 0, .bool false, .string ⟨#[]⟩, .int .i64 0]
  have hs1 := h.alloc (.cells #[.int .i64 0, .string ⟨#[]⟩, .int .i64 0, .slice none 0 0, .slice none 0 0, .string ⟨#[]⟩, .int .i64 0, .bool false, .string ⟨#[]⟩, .int .i64 0] 42)
  obtain ⟨⟨c0, c1, c2⟩, f1, f2⟩ := h.facts
  go_enter Tryd.func23, Tryd.ntmps23
  go_upto_region 1 with fail
  generalize hw1 : w.alloc (.cells #[.int .i64 0, .string ⟨#[]⟩, .int .i64 0, .slice none 0 0, .slice none 0 0, .string ⟨#[]⟩, .int .i64 0, .bool false, .string ⟨#[]⟩, .int .i64 0] 42) = w1 at hAw1 hQ0 hs1 ⊢
  generalize hq0 : w.heap.size = q at hQ0 ⊢
  clear hw1 c0 c1 c2 f1 f2
  obtain ⟨⟨c0, c1, c2⟩, f1, f2⟩ := hs1.facts
  have hq1 : q < w1.heap.size := Blk.lt hQ0
  have hgl := hs1.lt
  have hqg : q ∉ [g] := by simp; omega
  have hq3 : w.heap.size ≤ q := by omega
  clear hq0
  have L1 : QX w1 (w1.alloc (.cells #[.int .i64 0, .string ⟨#[]⟩, .int .i64 0, .slice none 0 0, .slice none 0 0, .string ⟨#[]⟩, .int .i64 0, .bool false, .string ⟨#[]⟩, .int .i64 0] 42)) g w1.heap.size s a false 0 ⟨#[]⟩ 0 (.slice none 0 0) [] ⟨#[]⟩ 0 false ⟨#[]⟩ 0 :=
    ⟨hs1.alloc _, by
      have := Blk.new w1 42 #[.int .i64 0, .string ⟨#[]⟩, .int .i64 0, .slice none 0 0, .slice none 0 0, .string ⟨#[]⟩, .int .i64 0, .bool false, .string ⟨#[]⟩, .int .i64 0]
      simpa [Rw] using this, World.ownsRow_nil _ _ _ _, hs1.lt, Nat.le_refl _, (Aw.refl _ _).alloc _⟩
  go_upto_region 24 with (first
    | (go_at_call 21; (with_reducible refine (kN _ L1.sr).mono ?_); rintro e w2 ⟨rfl, q1, rfl⟩; have L2 := L1.drewN q1; obtain ⟨_, r0, r1, r2, r3, r4, r5, r6, r7, r8, r9⟩ := L2.rw_.facts; have L3 := L2.kind_ 2 (u := .int .i64 2) rfl)
    | (go_at_call 22; (with_reducible refine (k1 _ L3.sr).mono ?_); rintro e w4 ⟨rfl, h4, hA4⟩; have L4 := L3.scan h4 hA4; obtain ⟨⟨c0, c1, c2⟩, _⟩ := L4.sr.facts; obtain ⟨_, r0, r1, r2, r3, r4, r5, r6, r7, r8, r9⟩ := L4.rw_.facts; have L5 := L4.off_ a1)
    | (go_at_call 34; (with_reducible refine (k2 _ L5.sr).mono ?_); rintro e w6 ⟨rfl, h6, hA6⟩; have L6 := L5.scan h6 hA6; obtain ⟨_, r0, r1, r2, r3, r4, r5, r6, r7, r8, r9⟩ := L6.rw_.facts; have L7 := L6.name V1)
    | (go_at_call 22; (with_reducible refine (k3 _ L7.sr).mono ?_); rintro e w8 ⟨rfl, h8, hA8⟩; have L8 := L7.scan h8 hA8; obtain ⟨⟨c0, c1, c2⟩, _⟩ := L8.sr.facts; obtain ⟨_, r0, r1, r2, r3, r4, r5, r6, r7, r8, r9⟩ := L8.rw_.facts; have L9 := L8.pos_ a3))
  revert L9
  generalize World.setCell _ _ _ = W9
  intro L9
  clear L8 L7 L6 L5 L4 L3 L2 L1 kN k1 k2 k3 r0 r1 r2 r3 r4 r5 r6 r7 r8 r9 c0 c1 c2 h4 h6 h8 hA4 hA6 hA8
  cases n3
  case true =>
    obtain ⟨rfl, rfl⟩ := hn34 rfl
    have LZ := L9
    obtain ⟨⟨d0, d1, d2, d3, d4, d5, d6, d7, d8, d9⟩, _⟩ := LZ.rw_.facts
    obtain ⟨⟨e0, e1, e2, e3, e4, e5, e6, e7, e8, e9⟩, v0, v1, v2, v3, v4, v5, v6, v7, v8, v9⟩ := Rw.facts (Blk.aw hQ0 LZ.aw hqg)
    obtain ⟨⟨c0, c1, c2⟩, _⟩ := LZ.sr.facts
    go_wp2_with fail
    go_region
    all_goals
      go_wp2_with fail
      refine bodyPost_ret (v := .tuple #[.agg #[.int .i64 (2 : Nat), .string V1, .int .i64 (a1 : Int), .slice none 0 0, .slice none 0 0, .string ⟨#[]⟩, .int .i64 (a3 : Int), .bool false, .string ⟨#[]⟩, .int .i64 (0 : Nat)], .bool false]) (by simp [results, Tryd.results23, go_sem, e0, e1, e2, e3, e4, e5, e6, e7, e8, e9]) rfl ⟨_, rfl, QX.fin (tags := []) (tA := none) (tc := 0) (R := R) (no := true) LZ hAw1 hQ0 (by omega) hg ?_ (fun e => by cases e)⟩
      first
        | exact Aw.drew (Aw.ten' rfl rfl rfl rfl rfl rfl rfl rfl rfl rfl)
        | exact Aw.trans (Aw.drew (Aw.refl _ _)) (Aw.ten' rfl rfl rfl rfl rfl rfl rfl rfl rfl rfl)
  case false =>
    obtain ⟨⟨d0, d1, d2, d3, d4, d5, d6, d7, d8, d9⟩, _⟩ := L9.rw_.facts
    obtain ⟨⟨c0, c1, c2⟩, _⟩ := L9.sr.facts
    clear hn34
    go_upto_region 29 with (go_at_call 34; (with_reducible refine (kT _ L9.sr).mono ?_); rintro e w10 ⟨rfl, h10, hA10⟩; have L10 := L9.scan h10 hA10; obtain ⟨_, r0, r1, r2, r3, r4, r5, r6, r7, r8, r9⟩ := L10.rw_.facts; have LZ := L10.text_ VT; obtain ⟨⟨d0, d1, d2, d3, d4, d5, d6, d7, d8, d9⟩, _⟩ := LZ.rw_.facts; obtain ⟨⟨e0, e1, e2, e3, e4, e5, e6, e7, e8, e9⟩, v0, v1, v2, v3, v4, v5, v6, v7, v8, v9⟩ := Rw.facts (Blk.aw hQ0 LZ.aw hqg); obtain ⟨⟨c0, c1, c2⟩, _⟩ := LZ.sr.facts)
    revert LZ
    generalize World.setCell _ _ _ = WZ
    intro LZ
    clear L10 L9 h10 hA10 kT
    obtain ⟨⟨d0, d1, d2, d3, d4, d5, d6, d7, d8, d9⟩, _⟩ := LZ.rw_.facts
    obtain ⟨⟨e0, e1, e2, e3, e4, e5, e6, e7, e8, e9⟩, v0, v1, v2, v3, v4, v5, v6, v7, v8, v9⟩ := Rw.facts (Blk.aw hQ0 LZ.aw hqg)
    obtain ⟨⟨c0, c1, c2⟩, _⟩ := LZ.sr.facts
    go_region
    all_goals
      go_wp2_with fail
      refine bodyPost_ret (v := .tuple #[.agg #[.int .i64 (2 : Nat), .string V1, .int .i64 (a1 : Int), .slice none 0 0, .slice none 0 0, .string VT, .int .i64 (a3 : Int), .bool false, .string ⟨#[]⟩, .int .i64 (0 : Nat)], .bool (!n4)]) (by simp [results, Tryd.results23, go_sem, e0, e1, e2, e3, e4, e5, e6, e7, e8, e9]) rfl ⟨_, rfl, QX.fin (tags := []) (tA := none) (tc := 0) (R := R) (no := n4) LZ hAw1 hQ0 (by omega) hg ?_ (fun _ => by rw [← HRow.out]; rfl)⟩
      first
        | exact Aw.drew (Aw.ten' rfl rfl rfl rfl rfl rfl rfl rfl rfl rfl)
        | exact Aw.trans (Aw.drew (Aw.refl _ _)) (Aw.ten' rfl rfl rfl rfl rfl rfl rfl rfl rfl rfl)
set_option maxRecDepth 100000 in
set_option maxHeartbeats 12800000 in
theorem told17_help (g : Nat) (s : ByteArray) (a : Nat) (R : MRow) (a' : Nat) (no' : Bool) (w : World) (h : Sr w g s a false) (ha : a ≤ s.size) (hs : s.size ≤ 1048576) (hc : bt s.data.toList a = 72) (hR : toldP s.data.toList 3 wHelp a false = (R, a', no')) :
    Calls Tryd.prog 23 #[.pointer (some ⟨g, 0, none⟩)] w fun e w' => ∃ v, e = .returned (.tuple #[v, .bool (!no')]) ∧ RowT R no' w.heap.size v w' ∧ Sr w' g s a' no' ∧ Aw [g] w w' := by
  have hL : s.data.toList.length = s.size := by simp
  have hs2 : s.size ≤ 4611686018427387904 := Nat.le_trans hs (by decide)
  have hg := h.lt
  obtain ⟨a1, n1, h1⟩ : ∃ a1 n1, wordS s.data.toList wHelp a false = (a1, n1) := ⟨_, _, rfl⟩
  obtain ⟨a2, n2, h2⟩ : ∃ a2 n2, nmS s.data.toList owName a1 n1 = (a2, n2) := ⟨_, _, rfl⟩
  obtain ⟨a3, n3, h3⟩ : ∃ a3 n3, wordS s.data.toList [32] a2 n2 = (a3, n3) := ⟨_, _, rfl⟩
  obtain ⟨TT, a4, n4, h4⟩ : ∃ TT a4 n4, ink s.data.toList 10 inH 110 a3 n3 = (TT, a4, n4) := ⟨_, _, _, rfl⟩
  have hot : otextS s.data.toList 3 a3 n3 = ((if n4 then [] else TT), a4, n4) := by unfold otextS inkV; simp [h4]
  have hl1 := wordS_le s.data.toList wHelp a false (by rw [hL]; exact ha)
  rw [h1, hL] at hl1
  have hl2 := nmS_le (l := s.data.toList) owName n1 (by rw [hL]; exact hl1.2)
  rw [h2, hL] at hl2
  have hl3 := wordS_le s.data.toList [32] a2 n2 (by rw [hL]; exact hl2.2)
  rw [h3, hL] at hl3
  simp only at hl1 hl2 hl3
  unfold toldP at hR
  simp only [h1, h2, h3, hot] at hR
  have kN := fun W h => next_any g s a false W h hs2 ha
  rw [hc] at kN
  have k1 := fun W h => lit_any g s ⟨#[72, 69, 76, 80, 32]⟩ a false a1 n1 W h ha hs (by decide) h1
  have k2 := fun W h => run_nm_name g s a1 n1 a2 n2 W h hl1.2 hs h2
  have k3 := fun W h => lit_any g s ⟨#[32]⟩ a2 n2 a3 n3 W h hl2.2 hs (by decide) h3
  have kT := fun W h => str_any g s ⟨#[]⟩ ⟨#[92, 110]⟩ 10 110 a3 n3 TT a4 n4 W h hl3.2 hs (by decide) (by decide) (by intro c hc; simp [hasB]; exact hc) h4
  have hn34 : n3 = true → a3 = a4 ∧ true = n4 := fun e => by
    rw [e] at h4
    unfold ink at h4
    simp only [if_true] at h4
    injection h4 with e1 e2
    injection e2 with e1 e2
    exact ⟨e1, e2⟩
  generalize mkS (cutL s.data.toList a1 a2) = V1 at k2 hR
  generalize hVT : mkS TT = VT at kT
  have HVT := Lib.hid hVT
  clear hVT
  obtain ⟨hRow, rfl, rfl⟩ : _ ∧ a4 = a' ∧ n4 = no' := by injection hR with e1 e2; injection e2 with e3 e4; exact ⟨e1, e3, e4⟩
  have HRow := Lib.hid hRow
  clear h1 h2 h3 h4 hR hL hot hRow hc
  have hAw1 : Aw [] w (w.alloc (.cells #[.int .i64 0, .string ⟨#[]⟩, .int .i64 0, .slice none 0 0, .slice none 0 0, .string ⟨#[]⟩, .int .i64 0, .bool false, .string ⟨#[]⟩, .int .i64 0] 42)) := (Aw.refl _ _).alloc _
  have hQ0 := Blk.new w 42 #[.int .i64 0, .string ⟨#[]⟩, .int .i64 0, .slice none 0 0, .slice none 0 0, .string ⟨#[]⟩, .int .i64 0, .bool false, .string ⟨#[]⟩, .int .i64 0]
  have hs1 := h.alloc (.cells #[.int .i64 0, .string ⟨#[]⟩, .int .i64 0, .slice none 0 0, .slice none 0 0, .string ⟨#[]⟩, .int .i64 0, .bool false, .string ⟨#[]⟩, .int .i64 0] 42)
  obtain ⟨⟨c0, c1, c2⟩, f1, f2⟩ := h.facts
  go_enter Tryd.func23, Tryd.ntmps23
  go_upto_region 1 with fail
  generalize hw1 : w.alloc (.cells #[.int .i64 0, .string ⟨#[]⟩, .int .i64 0, .slice none 0 0, .slice none 0 0, .string ⟨#[]⟩, .int .i64 0, .bool false, .string ⟨#[]⟩, .int .i64 0] 42) = w1 at hAw1 hQ0 hs1 ⊢
  generalize hq0 : w.heap.size = q at hQ0 ⊢
  clear hw1 c0 c1 c2 f1 f2
  obtain ⟨⟨c0, c1, c2⟩, f1, f2⟩ := hs1.facts
  have hq1 : q < w1.heap.size := Blk.lt hQ0
  have hgl := hs1.lt
  have hqg : q ∉ [g] := by simp; omega
  have hq3 : w.heap.size ≤ q := by omega
  clear hq0
  have L1 : QX w1 (w1.alloc (.cells #[.int .i64 0, .string ⟨#[]⟩, .int .i64 0, .slice none 0 0, .slice none 0 0, .string ⟨#[]⟩, .int .i64 0, .bool false, .string ⟨#[]⟩, .int .i64 0] 42)) g w1.heap.size s a false 0 ⟨#[]⟩ 0 (.slice none 0 0) [] ⟨#[]⟩ 0 false ⟨#[]⟩ 0 :=
    ⟨hs1.alloc _, by
      have := Blk.new w1 42 #[.int .i64 0, .string ⟨#[]⟩, .int .i64 0, .slice none 0 0, .slice none 0 0, .string ⟨#[]⟩, .int .i64 0, .bool false, .string ⟨#[]⟩, .int .i64 0]
      simpa [Rw] using this, World.ownsRow_nil _ _ _ _, hs1.lt, Nat.le_refl _, (Aw.refl _ _).alloc _⟩
  go_upto_region 24 with (first
    | (go_at_call 21; (with_reducible refine (kN _ L1.sr).mono ?_); rintro e w2 ⟨rfl, q1, rfl⟩; have L2 := L1.drewN q1; obtain ⟨_, r0, r1, r2, r3, r4, r5, r6, r7, r8, r9⟩ := L2.rw_.facts; have L3 := L2.kind_ 3 (u := .int .i64 3) rfl)
    | (go_at_call 22; (with_reducible refine (k1 _ L3.sr).mono ?_); rintro e w4 ⟨rfl, h4, hA4⟩; have L4 := L3.scan h4 hA4; obtain ⟨⟨c0, c1, c2⟩, _⟩ := L4.sr.facts; obtain ⟨_, r0, r1, r2, r3, r4, r5, r6, r7, r8, r9⟩ := L4.rw_.facts; have L5 := L4.off_ a1)
    | (go_at_call 34; (with_reducible refine (k2 _ L5.sr).mono ?_); rintro e w6 ⟨rfl, h6, hA6⟩; have L6 := L5.scan h6 hA6; obtain ⟨_, r0, r1, r2, r3, r4, r5, r6, r7, r8, r9⟩ := L6.rw_.facts; have L7 := L6.name V1)
    | (go_at_call 22; (with_reducible refine (k3 _ L7.sr).mono ?_); rintro e w8 ⟨rfl, h8, hA8⟩; have L8 := L7.scan h8 hA8; obtain ⟨⟨c0, c1, c2⟩, _⟩ := L8.sr.facts; obtain ⟨_, r0, r1, r2, r3, r4, r5, r6, r7, r8, r9⟩ := L8.rw_.facts; have L9 := L8.pos_ a3))
  revert L9
  generalize World.setCell _ _ _ = W9
  intro L9
  clear L8 L7 L6 L5 L4 L3 L2 L1 kN k1 k2 k3 r0 r1 r2 r3 r4 r5 r6 r7 r8 r9 c0 c1 c2 h4 h6 h8 hA4 hA6 hA8
  cases n3
  case true =>
    obtain ⟨rfl, rfl⟩ := hn34 rfl
    have LZ := L9
    obtain ⟨⟨d0, d1, d2, d3, d4, d5, d6, d7, d8, d9⟩, _⟩ := LZ.rw_.facts
    obtain ⟨⟨e0, e1, e2, e3, e4, e5, e6, e7, e8, e9⟩, v0, v1, v2, v3, v4, v5, v6, v7, v8, v9⟩ := Rw.facts (Blk.aw hQ0 LZ.aw hqg)
    obtain ⟨⟨c0, c1, c2⟩, _⟩ := LZ.sr.facts
    go_wp2_with fail
    go_region
    all_goals
      go_wp2_with fail
      refine bodyPost_ret (v := .tuple #[.agg #[.int .i64 (3 : Nat), .string V1, .int .i64 (a1 : Int), .slice none 0 0, .slice none 0 0, .string ⟨#[]⟩, .int .i64 (a3 : Int), .bool false, .string ⟨#[]⟩, .int .i64 (0 : Nat)], .bool false]) (by simp [results, Tryd.results23, go_sem, e0, e1, e2, e3, e4, e5, e6, e7, e8, e9]) rfl ⟨_, rfl, QX.fin (tags := []) (tA := none) (tc := 0) (R := R) (no := true) LZ hAw1 hQ0 (by omega) hg ?_ (fun e => by cases e)⟩
      first
        | exact Aw.drew (Aw.ten' rfl rfl rfl rfl rfl rfl rfl rfl rfl rfl)
        | exact Aw.trans (Aw.drew (Aw.refl _ _)) (Aw.ten' rfl rfl rfl rfl rfl rfl rfl rfl rfl rfl)
  case false =>
    obtain ⟨⟨d0, d1, d2, d3, d4, d5, d6, d7, d8, d9⟩, _⟩ := L9.rw_.facts
    obtain ⟨⟨c0, c1, c2⟩, _⟩ := L9.sr.facts
    clear hn34
    go_upto_region 29 with (go_at_call 35; (with_reducible refine (kT _ L9.sr).mono ?_); rintro e w10 ⟨rfl, h10, hA10⟩; have L10 := L9.scan h10 hA10; obtain ⟨_, r0, r1, r2, r3, r4, r5, r6, r7, r8, r9⟩ := L10.rw_.facts; have LZ := L10.text_ VT; obtain ⟨⟨d0, d1, d2, d3, d4, d5, d6, d7, d8, d9⟩, _⟩ := LZ.rw_.facts; obtain ⟨⟨e0, e1, e2, e3, e4, e5, e6, e7, e8, e9⟩, v0, v1, v2, v3, v4, v5, v6, v7, v8, v9⟩ := Rw.facts (Blk.aw hQ0 LZ.aw hqg); obtain ⟨⟨c0, c1, c2⟩, _⟩ := LZ.sr.facts)
    revert LZ
    generalize World.setCell _ _ _ = WZ
    intro LZ
    clear L10 L9 h10 hA10 kT
    obtain ⟨⟨d0, d1, d2, d3, d4, d5, d6, d7, d8, d9⟩, _⟩ := LZ.rw_.facts
    obtain ⟨⟨e0, e1, e2, e3, e4, e5, e6, e7, e8, e9⟩, v0, v1, v2, v3, v4, v5, v6, v7, v8, v9⟩ := Rw.facts (Blk.aw hQ0 LZ.aw hqg)
    obtain ⟨⟨c0, c1, c2⟩, _⟩ := LZ.sr.facts
    go_region
    all_goals
      go_wp2_with fail
      refine bodyPost_ret (v := .tuple #[.agg #[.int .i64 (3 : Nat), .string V1, .int .i64 (a1 : Int), .slice none 0 0, .slice none 0 0, .string VT, .int .i64 (a3 : Int), .bool false, .string ⟨#[]⟩, .int .i64 (0 : Nat)], .bool (!n4)]) (by simp [results, Tryd.results23, go_sem, e0, e1, e2, e3, e4, e5, e6, e7, e8, e9]) rfl ⟨_, rfl, QX.fin (tags := []) (tA := none) (tc := 0) (R := R) (no := n4) LZ hAw1 hQ0 (by omega) hg ?_ (fun e => by rw [← HRow.out, e, ← HVT.out]; rfl)⟩
      first
        | exact Aw.drew (Aw.ten' rfl rfl rfl rfl rfl rfl rfl rfl rfl rfl)
        | exact Aw.trans (Aw.drew (Aw.refl _ _)) (Aw.ten' rfl rfl rfl rfl rfl rfl rfl rfl rfl rfl)
def zeroRow : MRow := ⟨0, mkS [], 0, [], [], mkS [], 0, false, mkS [], 0⟩
theorem wordS_E {l : List UInt8} {a : Nat} (h : (bt l a == 69) = false) : wordS l wEOF a false = (a, true) := by
  unfold wEOF wordS
  have : isB l a false ((69 : UInt8).toNat : Int) = false := by rw [isB_nx (by decide)]; exact h
  rw [if_neg (by decide), this]; rfl
set_option maxRecDepth 100000 in
set_option maxHeartbeats 12800000 in
theorem told17_none (g : Nat) (s : ByteArray) (a : Nat) (a' : Nat) (no' : Bool) (C : Int) (w : World) (h : Sr w g s a false) (ha : a ≤ s.size) (hs : s.size ≤ 1048576) (hC : bt s.data.toList a = C) (c1 : (C == 69) = false) (c2 : (C == 84) = false) (c3 : (C == 85) = false) (c4 : (C == 72) = false) (hR : oendS s.data.toList (wordS s.data.toList wEOF a false).1 (wordS s.data.toList wEOF a false).2 = (a', no')) :
    Calls Tryd.prog 23 #[.pointer (some ⟨g, 0, none⟩)] w fun e w' => ∃ v, e = .returned (.tuple #[v, .bool false]) ∧ RowT zeroRow no' w.heap.size v w' ∧ Sr w' g s a' no' ∧ Aw [g] w w' := by
  have hs2 : s.size ≤ 4611686018427387904 := Nat.le_trans hs (by decide)
  have hg := h.lt
  rw [wordS_E (by rw [hC]; exact c1), oend_no] at hR
  obtain ⟨rfl, rfl⟩ : a = a' ∧ true = no' := by injection hR with e1 e2; exact ⟨e1, e2⟩
  have kN := fun W h => next_any g s a false W h hs2 ha
  rw [hC] at kN
  have k2 := fun W h => run_nm_name g s a true a true W h ha hs (by simp [nmS, someS])
  have k3 := fun W h => lit_any g s ⟨#[32]⟩ a true a true W h ha hs (by decide) (wordS_no _ _ _)
  have e0 : mkS (cutL s.data.toList a a) = ⟨#[]⟩ := by unfold cutL; simp [mkS]
  rw [e0] at k2
  clear hR hC e0
  have hAw1 : Aw [] w (w.alloc (.cells #[.int .i64 0, .string ⟨#[]⟩, .int .i64 0, .slice none 0 0, .slice none 0 0, .string ⟨#[]⟩, .int .i64 0, .bool false, .string ⟨#[]⟩, .int .i64 0] 42)) := (Aw.refl _ _).alloc _
  have hQ0 := Blk.new w 42 #[.int .i64 0, .string ⟨#[]⟩, .int .i64 0, .slice none 0 0, .slice none 0 0, .string ⟨#[]⟩, .int .i64 0, .bool false, .string ⟨#[]⟩, .int .i64 0]
  have hs1 := h.alloc (.cells #[.int .i64 0, .string ⟨#[]⟩, .int .i64 0, .slice none 0 0, .slice none 0 0, .string ⟨#[]⟩, .int .i64 0, .bool false, .string ⟨#[]⟩, .int .i64 0] 42)
  obtain ⟨⟨t0, t1, t2⟩, f1, f2⟩ := h.facts
  go_enter Tryd.func23, Tryd.ntmps23
  go_upto_region 1 with fail
  generalize hw1 : w.alloc (.cells #[.int .i64 0, .string ⟨#[]⟩, .int .i64 0, .slice none 0 0, .slice none 0 0, .string ⟨#[]⟩, .int .i64 0, .bool false, .string ⟨#[]⟩, .int .i64 0] 42) = w1 at hAw1 hQ0 hs1 ⊢
  generalize hq0 : w.heap.size = q at hQ0 ⊢
  clear hw1 t0 t1 t2 f1 f2
  obtain ⟨⟨t0, t1, t2⟩, f1, f2⟩ := hs1.facts
  have hgl := hs1.lt
  have hqg : q ∉ [g] := by simp; omega
  have hq3 : w.heap.size ≤ q := by omega
  clear hq0
  have L1 : QX w1 (w1.alloc (.cells #[.int .i64 0, .string ⟨#[]⟩, .int .i64 0, .slice none 0 0, .slice none 0 0, .string ⟨#[]⟩, .int .i64 0, .bool false, .string ⟨#[]⟩, .int .i64 0] 42)) g w1.heap.size s a false 0 ⟨#[]⟩ 0 (.slice none 0 0) [] ⟨#[]⟩ 0 false ⟨#[]⟩ 0 :=
    ⟨hs1.alloc _, by
      have := Blk.new w1 42 #[.int .i64 0, .string ⟨#[]⟩, .int .i64 0, .slice none 0 0, .slice none 0 0, .string ⟨#[]⟩, .int .i64 0, .bool false, .string ⟨#[]⟩, .int .i64 0]
      simpa [Rw] using this, World.ownsRow_nil _ _ _ _, hs1.lt, Nat.le_refl _, (Aw.refl _ _).alloc _⟩
  go_upto_region 29 with (first
    | (go_at_call 21; (with_reducible refine (kN _ L1.sr).mono ?_); rintro e w2 ⟨rfl, q1, rfl⟩; have L2 := L1.drewN q1; obtain ⟨_, r0, r1, r2, r3, r4, r5, r6, r7, r8, r9⟩ := L2.rw_.facts; obtain ⟨⟨t0, t1, t2⟩, f1, f2⟩ := L2.sr.facts; have L4 := L2.fell true; have L5 := L4.off_ a)
    | (go_at_call 34; (with_reducible refine (k2 _ L5.sr).mono ?_); rintro e w6 ⟨rfl, h6, hA6⟩; have L6 := L5.scan h6 hA6; obtain ⟨_, r0, r1, r2, r3, r4, r5, r6, r7, r8, r9⟩ := L6.rw_.facts; have L7 := L6.name ⟨#[]⟩)
    | (go_at_call 22; (with_reducible refine (k3 _ L7.sr).mono ?_); rintro e w8 ⟨rfl, h8, hA8⟩; have L8 := L7.scan h8 hA8; obtain ⟨⟨t0, t1, t2⟩, _⟩ := L8.sr.facts; obtain ⟨_, r0, r1, r2, r3, r4, r5, r6, r7, r8, r9⟩ := L8.rw_.facts; have LZ := L8.pos_ a))
  revert LZ
  generalize World.setCell _ _ _ = W9
  intro LZ
  clear L8 L7 L6 L5 L4 L2 L1 kN k2 k3 r0 r1 r2 r3 r4 r5 r6 r7 r8 r9 t0 t1 t2 h6 h8 hA6 hA8
  obtain ⟨⟨d0, d1, d2, d3, d4, d5, d6, d7, d8, d9⟩, _⟩ := LZ.rw_.facts
  obtain ⟨⟨e0, e1, e2, e3, e4, e5, e6, e7, e8, e9⟩, v0, v1, v2, v3, v4, v5, v6, v7, v8, v9⟩ := Rw.facts (Blk.aw hQ0 LZ.aw hqg)
  obtain ⟨⟨t0, t1, t2⟩, _⟩ := LZ.sr.facts
  go_region
  all_goals
    go_wp2_with fail
    refine bodyPost_ret (v := .tuple #[.agg #[.int .i64 (0 : Nat), .string ⟨#[]⟩, .int .i64 (a : Int), .slice none 0 0, .slice none 0 0, .string ⟨#[]⟩, .int .i64 (a : Int), .bool false, .string ⟨#[]⟩, .int .i64 (0 : Nat)], .bool false]) (by simp [results, Tryd.results23, go_sem, e0, e1, e2, e3, e4, e5, e6, e7, e8, e9]) rfl ⟨_, rfl, QX.fin (tags := []) (tA := none) (tc := 0) (R := zeroRow) (no := true) LZ hAw1 hQ0 (by omega) hg ?_ (fun e => by cases e)⟩
    first
      | exact Aw.drew (Aw.ten' rfl rfl rfl rfl rfl rfl rfl rfl rfl rfl)
      | exact Aw.trans (Aw.drew (Aw.refl _ _)) (Aw.ten' rfl rfl rfl rfl rfl rfl rfl rfl rfl rfl)
set_option maxRecDepth 100000 in
set_option maxHeartbeats 12800000 in
theorem told17_end (g : Nat) (s : ByteArray) (a : Nat) (a' : Nat) (no' : Bool) (w : World) (h : Sr w g s a false) (ha : a ≤ s.size) (hs : s.size ≤ 1048576) (hC : bt s.data.toList a = 69) (hR : oendS s.data.toList (wordS s.data.toList wEOF a false).1 (wordS s.data.toList wEOF a false).2 = (a', no')) :
    Calls Tryd.prog 23 #[.pointer (some ⟨g, 0, none⟩)] w fun e w' => ∃ v, e = .returned (.tuple #[v, .bool false]) ∧ RowT zeroRow no' w.heap.size v w' ∧ Sr w' g s a' no' ∧ Aw [g] w w' := by
  have hs2 : s.size ≤ 4611686018427387904 := Nat.le_trans hs (by decide)
  have hL : s.data.toList.length = s.size := by simp
  have hg := h.lt
  obtain ⟨b, m, h1⟩ : ∃ b m, wordS s.data.toList wEOF a false = (b, m) := ⟨_, _, rfl⟩
  have hl1 := wordS_le s.data.toList wEOF a false (by rw [hL]; exact ha)
  rw [h1] at hR hl1
  rw [hL] at hl1
  simp only at hR hl1
  have kN := fun W h => next_any g s a false W h hs2 ha
  rw [hC] at kN
  have k1 := fun W h => lit_any g s ⟨#[69, 79, 70]⟩ a false b m W h ha hs (by decide) h1
  have kN2 := fun W h => next_any g s b m W h hs2 hl1.2
  clear hC h1
  have hAw1 : Aw [] w (w.alloc (.cells #[.int .i64 0, .string ⟨#[]⟩, .int .i64 0, .slice none 0 0, .slice none 0 0, .string ⟨#[]⟩, .int .i64 0, .bool false, .string ⟨#[]⟩, .int .i64 0] 42)) := (Aw.refl _ _).alloc _
  have hQ0 := Blk.new w 42 #[.int .i64 0, .string ⟨#[]⟩, .int .i64 0, .slice none 0 0, .slice none 0 0, .string ⟨#[]⟩, .int .i64 0, .bool false, .string ⟨#[]⟩, .int .i64 0]
  have hs1 := h.alloc (.cells #[.int .i64 0, .string ⟨#[]⟩, .int .i64 0, .slice none 0 0, .slice none 0 0, .string ⟨#[]⟩, .int .i64 0, .bool false, .string ⟨#[]⟩, .int .i64 0] 42)
  obtain ⟨⟨t0, t1, t2⟩, f1, f2⟩ := h.facts
  go_enter Tryd.func23, Tryd.ntmps23
  go_upto_region 1 with fail
  generalize hw1 : w.alloc (.cells #[.int .i64 0, .string ⟨#[]⟩, .int .i64 0, .slice none 0 0, .slice none 0 0, .string ⟨#[]⟩, .int .i64 0, .bool false, .string ⟨#[]⟩, .int .i64 0] 42) = w1 at hAw1 hQ0 hs1 ⊢
  generalize hq0 : w.heap.size = q at hQ0 ⊢
  clear hw1 t0 t1 t2 f1 f2
  obtain ⟨⟨t0, t1, t2⟩, f1, f2⟩ := hs1.facts
  have hgl := hs1.lt
  have hqg : q ∉ [g] := by simp; omega
  have hq3 : w.heap.size ≤ q := by omega
  clear hq0
  have L1 : QX w1 (w1.alloc (.cells #[.int .i64 0, .string ⟨#[]⟩, .int .i64 0, .slice none 0 0, .slice none 0 0, .string ⟨#[]⟩, .int .i64 0, .bool false, .string ⟨#[]⟩, .int .i64 0] 42)) g w1.heap.size s a false 0 ⟨#[]⟩ 0 (.slice none 0 0) [] ⟨#[]⟩ 0 false ⟨#[]⟩ 0 :=
    ⟨hs1.alloc _, by
      have := Blk.new w1 42 #[.int .i64 0, .string ⟨#[]⟩, .int .i64 0, .slice none 0 0, .slice none 0 0, .string ⟨#[]⟩, .int .i64 0, .bool false, .string ⟨#[]⟩, .int .i64 0]
      simpa [Rw] using this, World.ownsRow_nil _ _ _ _, hs1.lt, Nat.le_refl _, (Aw.refl _ _).alloc _⟩
  go_upto_region 6 with (first
    | (go_at_call 21; (with_reducible refine (kN _ L1.sr).mono ?_); rintro e w2 ⟨rfl, q1, rfl⟩; have L2 := L1.drewN q1)
    | (go_at_call 22; (with_reducible refine (k1 _ L2.sr).mono ?_); rintro e w4 ⟨rfl, h4, hA4⟩; have L4 := L2.scan h4 hA4))
  clear L2 L1 h4 hA4 kN k1 t0 t1 t2 f1 f2
  obtain ⟨⟨t0, t1, t2⟩, f1, f2⟩ := L4.sr.facts
  generalize hC2 : bt s.data.toList b = C at kN2
  cases m
  case true =>
    rw [oend_no] at hR
    obtain ⟨rfl, rfl⟩ : b = a' ∧ true = no' := by injection hR with e1 e2; exact ⟨e1, e2⟩
    clear hC2 kN2 hR
    go_upto_region 8 with fail
    have LX := L4
    go_region
    all_goals
      have LZ := (LX.fell true).drew
      revert LZ
      generalize World.drew _ = WZ
      intro LZ
      obtain ⟨⟨d0, d1, d2, d3, d4, d5, d6, d7, d8, d9⟩, _⟩ := LZ.rw_.facts
      obtain ⟨⟨e0, e1, e2, e3, e4, e5, e6, e7, e8, e9⟩, v0, v1, v2, v3, v4, v5, v6, v7, v8, v9⟩ := Rw.facts (Blk.aw hQ0 LZ.aw hqg)
      go_wp2_with fail
      refine bodyPost_ret (v := .tuple #[.agg #[.int .i64 (0 : Nat), .string ⟨#[]⟩, .int .i64 (0 : Nat), .slice none 0 0, .slice none 0 0, .string ⟨#[]⟩, .int .i64 (0 : Nat), .bool false, .string ⟨#[]⟩, .int .i64 (0 : Nat)], .bool false]) (by simp [results, Tryd.results23, go_sem, e0, e1, e2, e3, e4, e5, e6, e7, e8, e9]) rfl ⟨_, rfl, QX.fin (tags := []) (tA := none) (tc := 0) (R := zeroRow) (no := true) LZ hAw1 hQ0 (by omega) hg ?_ (fun _ => rfl)⟩
      exact Aw.ten' rfl rfl rfl rfl rfl rfl rfl rfl rfl rfl
  case false =>
    cases hq : (C == 10)
    case false =>
      have hR2 : b = a' ∧ no' = decide (b < s.size) := by
        unfold oendS at hR
        cases he : (b == s.data.toList.length)
        · rw [he] at hR
          have h10 : isB s.data.toList b false ((10 : UInt8).toNat : Int) = false := by rw [isB_nx (by decide), hC2]; exact hq
          have hw : wordS s.data.toList [10] b false = (b, true) := by unfold wordS; rw [if_neg (by decide), h10]; rfl
          simp only [Bool.not_false, Bool.and_self, if_true, hw, he, Bool.false_eq_true, if_false] at hR
          injection hR with e1 e2
          have hne : b ≠ s.size := by rw [hL] at he; simpa using he
          exact ⟨e1, by rw [← e2]; simp; omega⟩
        · rw [he] at hR
          simp only [Bool.not_true, Bool.and_false, Bool.false_eq_true, if_false, he, if_true] at hR
          injection hR with e1 e2
          have hne : b = s.size := by rw [hL] at he; simpa using he
          exact ⟨e1, by rw [← e2]; simp; omega⟩
      obtain ⟨rfl, hno⟩ := hR2
      have hx1 : decide (b < s.size) = no' := hno.symm
      have hx2 : decide ((b : Int) < s.size) = no' := by rw [hno]; simp
      clear hR hno hC2
      go_upto_region 8 with (go_at_call 21; (with_reducible refine (kN2 _ L4.sr).mono ?_); rintro e w6 ⟨rfl, q1, rfl⟩; have LX := L4.drewN q1)
      generalize w4.drewN q1 = W6 at LX ⊢
      obtain ⟨⟨t0, t1, t2⟩, f1, f2⟩ := LX.sr.facts
      go_region
      all_goals
        have LZ := (LX.fell no').drew
        revert LZ
        generalize World.drew _ = WZ
        intro LZ
        obtain ⟨⟨d0, d1, d2, d3, d4, d5, d6, d7, d8, d9⟩, _⟩ := LZ.rw_.facts
        obtain ⟨⟨e0, e1, e2, e3, e4, e5, e6, e7, e8, e9⟩, v0, v1, v2, v3, v4, v5, v6, v7, v8, v9⟩ := Rw.facts (Blk.aw hQ0 LZ.aw hqg)
        go_wp2_with fail
        refine bodyPost_ret (v := .tuple #[.agg #[.int .i64 (0 : Nat), .string ⟨#[]⟩, .int .i64 (0 : Nat), .slice none 0 0, .slice none 0 0, .string ⟨#[]⟩, .int .i64 (0 : Nat), .bool false, .string ⟨#[]⟩, .int .i64 (0 : Nat)], .bool false]) (by simp [results, Tryd.results23, go_sem, e0, e1, e2, e3, e4, e5, e6, e7, e8, e9]) rfl ⟨_, rfl, QX.fin (tags := []) (tA := none) (tc := 0) (R := zeroRow) (no := no') LZ hAw1 hQ0 (by omega) hg ?_ (fun _ => rfl)⟩
        exact Aw.ten' rfl rfl rfl rfl rfl rfl rfl rfl rfl rfl
    case true =>
      have hlt : b < s.size := nx_lt hL (show (10 : Int) ≠ 0 by decide) (by rw [hC2]; simpa using hq)
      have hR2 : b + 1 = a' ∧ no' = decide (b + 1 < s.size) := by
        unfold oendS at hR
        have he : (b == s.data.toList.length) = false := by rw [hL]; simp; omega
        have h10 : isB s.data.toList b false ((10 : UInt8).toNat : Int) = true := by rw [isB_nx (by decide), hC2]; exact hq
        have hw : wordS s.data.toList [10] b false = (b + 1, false) := by unfold wordS; rw [if_neg (by decide), h10]; rfl
        simp only [Bool.not_false, Bool.and_self, if_true, hw, he] at hR
        cases he2 : (b + 1 == s.data.toList.length)
        · rw [he2] at hR
          simp only [Bool.false_eq_true, if_false] at hR
          injection hR with e1 e2
          have hne : b + 1 ≠ s.size := by rw [hL] at he2; simpa using he2
          exact ⟨e1, by rw [← e2]; simp; omega⟩
        · rw [he2] at hR
          simp only [if_true] at hR
          injection hR with e1 e2
          have hne : b + 1 = s.size := by rw [hL] at he2; simpa using he2
          exact ⟨e1, by rw [← e2]; simp; omega⟩
      obtain ⟨rfl, hno⟩ := hR2
      have hx1 : decide (b + 1 < s.size) = no' := hno.symm
      have hx2 : decide ((b : Int) + 1 < s.size) = no' := by
        rw [hno]; apply Bool.eq_iff_iff.2; simp only [decide_eq_true_eq]; omega
      clear hR hno hC2
      go_upto_region 8 with (go_at_call 21; (with_reducible refine (kN2 _ L4.sr).mono ?_); rintro e w6 ⟨rfl, q1, rfl⟩; have L6 := L4.drewN q1; obtain ⟨⟨t0, t1, t2⟩, f1, f2⟩ := L6.sr.facts; have LX := L6.at1)
      revert LX
      generalize World.setCell _ _ _ = W6
      intro LX
      clear L6
      obtain ⟨⟨t0, t1, t2⟩, f1, f2⟩ := LX.sr.facts
      have hx3 : decide (((b + 1 : Nat) : Int) < s.size) = no' := hx2
      go_region
      all_goals
        have LZ := (LX.fell no').drew
        revert LZ
        generalize World.drew _ = WZ
        intro LZ
        obtain ⟨⟨d0, d1, d2, d3, d4, d5, d6, d7, d8, d9⟩, _⟩ := LZ.rw_.facts
        obtain ⟨⟨e0, e1, e2, e3, e4, e5, e6, e7, e8, e9⟩, v0, v1, v2, v3, v4, v5, v6, v7, v8, v9⟩ := Rw.facts (Blk.aw hQ0 LZ.aw hqg)
        go_wp2_with fail
        refine bodyPost_ret (v := .tuple #[.agg #[.int .i64 (0 : Nat), .string ⟨#[]⟩, .int .i64 (0 : Nat), .slice none 0 0, .slice none 0 0, .string ⟨#[]⟩, .int .i64 (0 : Nat), .bool false, .string ⟨#[]⟩, .int .i64 (0 : Nat)], .bool false]) (by simp [results, Tryd.results23, go_sem, e0, e1, e2, e3, e4, e5, e6, e7, e8, e9]) rfl ⟨_, rfl, QX.fin (tags := []) (tA := none) (tc := 0) (R := zeroRow) (no := no') LZ hAw1 hQ0 (by omega) hg ?_ (fun _ => rfl)⟩
        exact Aw.ten' rfl rfl rfl rfl rfl rfl rfl rfl rfl rfl
/-- What told tells of a line behind its # and blank: its row, if it has one; how far. -/
def toldX (l : List UInt8) (a : Nat) : Option MRow × Nat × Bool :=
  if bt l a == 84 then (some (toldP l 1 wType a false).1, (toldP l 1 wType a false).2)
  else if bt l a == 85 then (some (toldP l 2 wUnit a false).1, (toldP l 2 wUnit a false).2)
  else if bt l a == 72 then (some (toldP l 3 wHelp a false).1, (toldP l 3 wHelp a false).2)
  else (none, oendS l (wordS l wEOF a false).1 (wordS l wEOF a false).2)
theorem toldX_le {l : List UInt8} {a : Nat} (h : a ≤ l.length) : a ≤ (toldX l a).2.1 ∧ (toldX l a).2.1 ≤ l.length := by
  have hp : ∀ k word, a ≤ (toldP l k word a false).2.1 ∧ (toldP l k word a false).2.1 ≤ l.length := by
    intro k word
    unfold toldP
    simp only
    have h1 := wordS_le l word a false h
    generalize wordS l word a false = w at h1 ⊢
    have h2 := nmS_le (l := l) owName w.2 h1.2
    generalize nmS l owName w.1 w.2 = n at h2 ⊢
    have h3 := wordS_le l [32] n.1 n.2 h2.2
    generalize wordS l [32] n.1 n.2 = b at h3 ⊢
    have h4 := otextS_le (l := l) (kind := k) b.2 h3.2
    omega
  unfold toldX
  split
  · exact hp _ _
  split
  · exact hp _ _
  split
  · exact hp _ _
  · have h1 := wordS_le l wEOF a false h
    generalize wordS l wEOF a false = w at h1 ⊢
    unfold oendS
    simp only
    split
    · have := wordS_le l [10] w.1 w.2 h1.2; omega
    · exact h1
theorem told17_any (g : Nat) (s : ByteArray) (a : Nat) (q : Option MRow) (a' : Nat) (no' : Bool) (w : World) (h : Sr w g s a false) (ha : a ≤ s.size) (hs : s.size ≤ 1048576) (hR : toldX s.data.toList a = (q, a', no')) :
    Calls Tryd.prog 23 #[.pointer (some ⟨g, 0, none⟩)] w fun e w' => ∃ v, e = .returned (.tuple #[v, .bool (q.isSome && !no')]) ∧ RowT (q.getD zeroRow) no' w.heap.size v w' ∧ Sr w' g s a' no' ∧ Aw [g] w w' := by
  unfold toldX at hR
  cases h1 : (bt s.data.toList a == 84)
  · simp only [h1, Bool.false_eq_true, if_false] at hR
    cases h2 : (bt s.data.toList a == 85)
    · simp only [h2, Bool.false_eq_true, if_false] at hR
      cases h3 : (bt s.data.toList a == 72)
      · simp only [h3, Bool.false_eq_true, if_false] at hR
        injection hR with e1 e2
        subst e1
        cases h4 : (bt s.data.toList a == 69)
        · exact told17_none g s a a' no' _ w h ha hs rfl h4 h1 h2 h3 e2
        · exact told17_end g s a a' no' w h ha hs (by simpa using h4) e2
      · simp only [h3, if_true] at hR
        injection hR with e1 e2
        subst e1
        exact told17_help g s a _ a' no' w h ha hs (by simpa using h3) (Prod.ext rfl e2)
    · simp only [h2, if_true] at hR
      injection hR with e1 e2
      subst e1
      exact told17_unit g s a _ a' no' w h ha hs (by simpa using h2) (Prod.ext rfl e2)
  · simp only [h1, if_true] at hR
    injection hR with e1 e2
    subst e1
    exact told17_type g s a _ a' no' w h ha hs (by simpa using h1) (Prod.ext rfl e2)
/-- How a line goes on. -/
theorem oline_samp {l : List UInt8} {a : Nat} (h : (bt l a == 35) = false) : olineS l a = ((some (sampP l a false).1, false), wordS l [10] (sampP l a false).2.1 (sampP l a false).2.2) := by
  unfold olineS
  rw [isB_nx (by decide), h]
  simp only [Bool.false_eq_true, if_false]
  rw [sampS_P]
theorem oline_fell {l : List UInt8} {a p : Nat} (h : (bt l a == 35) = true) (hw : wordS l wHash a false = (p, true)) : olineS l a = ((none, true), p, true) := by
  unfold olineS
  rw [isB_nx (by decide), h]
  simp only [if_true, hw, isB_no, Bool.false_eq_true, if_false, wordS_no]
theorem oline_told {l : List UInt8} {a p p2 : Nat} {n2 : Bool} {R : MRow} (h : (bt l a == 35) = true) (hw : wordS l wHash a false = (p, false)) (ht : toldX l p = (some R, p2, n2)) : olineS l a = ((some R, false), wordS l [10] p2 n2) := by
  unfold olineS
  rw [isB_nx (by decide), h]
  simp only [if_true, hw]
  rw [isB_nx (by decide), isB_nx (by decide), isB_nx (by decide)]
  unfold toldX at ht
  cases h1 : (bt l p == 84)
  · simp only [h1, Bool.false_eq_true, if_false] at ht ⊢
    cases h2 : (bt l p == 85)
    · simp only [h2, Bool.false_eq_true, if_false] at ht ⊢
      cases h3 : (bt l p == 72)
      · simp only [h3, Bool.false_eq_true, if_false] at ht
        injection ht with e1 _; cases e1
      · simp only [h3, if_true] at ht ⊢
        injection ht with e1 e2; injection e1 with e1
        rw [otoldS_P, e1, e2]
    · simp only [h2, if_true] at ht ⊢
      injection ht with e1 e2; injection e1 with e1
      rw [otoldS_P, e1, e2]
  · simp only [h1, if_true] at ht ⊢
    injection ht with e1 e2; injection e1 with e1
    rw [otoldS_P, e1, e2]
theorem oline_end {l : List UInt8} {a p p2 : Nat} {n2 : Bool} (h : (bt l a == 35) = true) (hw : wordS l wHash a false = (p, false)) (ht : toldX l p = (none, p2, n2)) : (olineS l a).1 = (none, true) ∧ oendS l (olineS l a).2.1 (olineS l a).2.2 = (p2, n2) := by
  unfold olineS
  rw [isB_nx (by decide), h]
  simp only [if_true, hw]
  rw [isB_nx (by decide), isB_nx (by decide), isB_nx (by decide)]
  unfold toldX at ht
  cases h1 : (bt l p == 84)
  · simp only [h1, Bool.false_eq_true, if_false] at ht ⊢
    cases h2 : (bt l p == 85)
    · simp only [h2, Bool.false_eq_true, if_false] at ht ⊢
      cases h3 : (bt l p == 72)
      · simp only [h3, Bool.false_eq_true, if_false] at ht ⊢
        injection ht with _ e2
        exact ⟨trivial, e2⟩
      · simp only [h3, if_true] at ht
        injection ht with e1 _; cases e1
    · simp only [h2, if_true] at ht
      injection ht with e1 _; cases e1
  · simp only [h1, if_true] at ht
    injection ht with e1 _; cases e1
/-- The loop over lines, to its end. -/
def ORef (l : List UInt8) (f p : Nat) (np : Bool) (acc : List MRow) (RR : List MRow × Nat × Bool) : Prop :=
  (np = false ∧ l.length < f + p ∧ ((orowsGo l f p acc).1, oendS l (orowsGo l f p acc).2.1 (orowsGo l f p acc).2.2) = RR) ∨ (np = true ∧ RR.2 = (p, true))
/-- A line with a row. -/
theorem oref_row {l : List UInt8} {f p p3 : Nat} {n3 : Bool} {acc : List MRow} {RR : List MRow × Nat × Bool} {R x : MRow} (hp : p ≤ l.length) (h : ORef l (f + 1) p false acc RR) (hl : olineS l p = ((some R, false), p3, n3)) (hx : n3 = false → x = R) : ORef l f p3 n3 (acc ++ [x]) RR ∧ p ≤ p3 ∧ p3 ≤ l.length ∧ (n3 = false → p < p3) := by
  have h1 := olineS_le (l := l) hp
  have h2 := oline_lt (l := l) hp
  rw [hl] at h1 h2
  simp only at h1 h2
  rcases h with ⟨_, hf, hR⟩ | ⟨h, _⟩
  · unfold orowsGo at hR
    rw [hl] at hR
    simp only [Bool.false_eq_true, if_false] at hR
    refine ⟨?_, h1.1, h1.2, fun e => h2 trivial e⟩
    cases n3
    · have := h2 trivial rfl
      simp only [Bool.false_eq_true, if_false] at hR
      rw [hx rfl]
      exact .inl ⟨rfl, by omega, hR⟩
    · simp only [if_true] at hR
      rw [oend_no] at hR
      exact .inr ⟨rfl, by rw [← hR]⟩
  · cases h
/-- The last line. -/
theorem oref_last {l : List UInt8} {f p p2 : Nat} {n2 : Bool} {acc : List MRow} {RR : List MRow × Nat × Bool} (h : ORef l (f + 1) p false acc RR) (hl : (olineS l p).1 = (none, true)) (he : oendS l (olineS l p).2.1 (olineS l p).2.2 = (p2, n2)) : RR = (acc, p2, n2) := by
  rcases h with ⟨_, _, hR⟩ | ⟨h, _⟩
  · unfold orowsGo at hR
    rw [hl] at hR
    simp only [if_true, Option.toList, List.append_nil] at hR
    rw [he] at hR
    exact hR.symm
  · cases h
structure RQ (w0 w : World) (g : Nat) (ov : Value) (s : ByteArray) (a : Nat) (no : Bool) (acc : List VRow) : Prop where
  sr : Sr w g s a no
  own : w.ownsRow w0.heap.size 42 10 ov acc.length (acc.flatMap rowCell)
  all : ∀ x, x ∈ acc → OwnV w w0.heap.size x
  bl : Below w0.heap.size w0 w
  gl : w0.heap.size ≤ g
/-- Behind what turns the scanner and a block of the call's own of another kind. -/
theorem RQ.call {w0 w w' : World} {S : List Nat} {g : Nat} {ov : Value} {s : ByteArray} {a a' : Nat} {no no' : Bool} {acc : List VRow} (h : RQ w0 w g ov s a no acc) (hs : Sr w' g s a' no') (k : Aw S w w') (hS : ∀ i, i ∈ S → i = g) : RQ w0 w' g ov s a' no' acc := by
  refine ⟨hs, own_aw h.own k (fun i hi e => ?_), fun x hx => (h.all x hx).aw k (fun i hi => ?_), h.bl.trans (k.bel_of (fun i hi => by rw [hS i hi]; exact h.gl) h.bl.size), h.gl⟩
  · rw [hS i e] at hi; exact own_blk_ne h.own h.sr (by decide) hi
  · rw [hS i hi]; exact ⟨fun n v xs q => own_blk_ne q h.sr (by decide), fun n v xs q => own_blk_ne q h.sr (by decide)⟩
theorem RQ.away {w0 w w' : World} {g : Nat} {ov : Value} {s : ByteArray} {a : Nat} {no : Bool} {acc : List VRow} (h : RQ w0 w g ov s a no acc) (k : Aw [] w w') : RQ w0 w' g ov s a no acc :=
  ⟨h.sr.aw k (by simp), own_aw h.own k (fun i hi e => by simp at e), fun x hx => (h.all x hx).aw k (fun i hi => by simp at hi), h.bl.trans (k.bel_of (fun i hi => by simp at hi) h.bl.size), h.gl⟩
/-- Behind stores to a block that stands beside the rows. -/
theorem RQ.beside {w0 w w' : World} {t : Nat} {cs : Array Value} {g : Nat} {ov : Value} {s : ByteArray} {a : Nat} {no : Bool} {acc : List VRow} (h : RQ w0 w g ov s a no acc) (k : Aw [t] w w') (ht : Blk w t 42 cs) (ht2 : w0.heap.size ≤ t) (ht3 : ov.ownBlock ≠ some t) : RQ w0 w' g ov s a no acc := by
  have hgt : g ≠ t := Blk.ne_ h.sr ht (by decide)
  refine ⟨h.sr.aw k (by simpa using hgt), own_aw h.own k (fun i hi e => ?_), fun x hx => (h.all x hx).aw k (fun i hi => ?_), h.bl.trans (k.bel_of (fun i hi => by rw [List.mem_singleton.1 hi]; exact ht2) h.bl.size), h.gl⟩
  · rw [List.mem_singleton.1 e] at hi; exact ht3 hi
  · rw [List.mem_singleton.1 hi]; exact ⟨fun n v xs q => own_blk_ne q ht (by decide), fun n v xs q => own_blk_ne q ht (by decide)⟩
theorem RQ.app {w0 w w' : World} {g : Nat} {ov ov' : Value} {s : ByteArray} {a : Nat} {no : Bool} {acc : List VRow} {x : VRow} (h : RQ w0 w g ov s a no acc) (k : Aw ov.ownBlock.toList w w') (hx : OwnV w w0.heap.size x) (ho : w'.ownsRow w0.heap.size 42 10 ov' (acc.length + 1) (acc.flatMap rowCell ++ rowCell x)) : RQ w0 w' g ov' s a no (acc ++ [x]) := by
  have hS : ∀ i, i ∈ ov.ownBlock.toList → (∀ n v xs, w.ownsRow w0.heap.size 44 4 v n xs → v.ownBlock ≠ some i) ∧ (∀ n v xs, w.ownsRow w0.heap.size 62 5 v n xs → v.ownBlock ≠ some i) := fun i hi => by
    have hi : ov.ownBlock = some i := by simpa using hi
    exact ⟨fun n v xs q e => own_own_ne q h.own (by decide) i e hi, fun n v xs q e => own_own_ne q h.own (by decide) i e hi⟩
  refine ⟨h.sr.aw k (fun e => own_blk_ne h.own h.sr (by decide) (by simpa using e)), by simpa using ho, fun y hy => ?_, h.bl.trans (k.bel_of (fun i hi => (h.own.lt i (by simpa using hi)).1) h.bl.size), h.gl⟩
  rcases List.mem_append.1 hy with hy | hy
  · exact (h.all y hy).aw k hS
  · rw [List.mem_singleton.1 hy]; exact hx.aw k hS
theorem RQ.has {w0 w : World} {g : Nat} {ov : Value} {s : ByteArray} {a : Nat} {no : Bool} {acc : List VRow} (h : RQ w0 w g ov s a no acc) : ∃ A c, ov = .slice A acc.length c ∧ HasRows w w.heap.size A acc.length (acc.map VRow.row) := by
  obtain ⟨A, c, rfl⟩ := own_form h.own
  exact ⟨A, c, rfl, acc, rfl, own_rows2 (f := rowCell) (fun _ => rfl) h.own rfl, fun x hx => ⟨own_rows2 (f := tagCell) (fun _ => rfl) (h.all x hx).1 rfl, own_rows2 (f := fieldCell) (fun _ => rfl) (h.all x hx).2 rfl⟩⟩
/-- What the reference's Rows tells. -/
def RowsE2 (R : List MRow × Nat × Bool) (e : Ending) (w' : World) : Prop := ∃ A n c, e = .returned (.tuple #[.slice A n c, .int .i64 (if R.2.2 then (R.2.1 : Int) else -1)]) ∧ HasRows w' w'.heap.size A n (if R.2.2 then [] else R.1)
theorem rowsE2_no {R : List MRow × Nat × Bool} {a : Nat} {w' : World} (h : R.2 = (a, true)) : RowsE2 R (.returned (.tuple #[.slice none 0 0, .int .i64 (a : Int)])) w' := by
  obtain ⟨R1, R2⟩ := R
  simp only at h; subst h
  exact ⟨_, _, _, rfl, HasRows.nil_⟩
theorem rowsE2_yes {R : List MRow × Nat × Bool} {a : Nat} {L : List MRow} {w' : World} {A : Option Addr} {n c : Nat} (h : R = (L, a, false)) (hr : HasRows w' w'.heap.size A n L) : RowsE2 R (.returned (.tuple #[.slice A n c, .int .i64 (-1)])) w' := by
  subst h
  exact ⟨_, _, _, rfl, hr⟩
/-- A row's block. -/
def RB (w : World) (r : Nat) (x : VRow) : Prop := Blk w r 42 #[.int .i64 (x.row.kind : Int), .string x.row.name, .int .i64 (x.row.off : Int), .slice x.tA x.row.tags.length x.tc, .slice x.fA x.row.fields.length x.fc, .string x.row.text, .int .i64 (x.row.pos : Int), .bool x.row.timed, .string x.row.time, .int .i64 (x.row.when_ : Int)]
theorem Blk.ten {w : World} {r : Nat} {c0 c1 c2 c3 c4 c5 c6 c7 c8 c9 : Value} {t : TypeId} (h : Blk w r t #[c0, c1, c2, c3, c4, c5, c6, c7, c8, c9]) (u0 u1 u2 u3 u4 u5 u6 u7 u8 u9 : Value) :
    Blk ((((((((((w.setCell ⟨r, 0, none⟩ u0).setCell ⟨r, 1, none⟩ u1).setCell ⟨r, 2, none⟩ u2).setCell ⟨r, 3, none⟩ u3).setCell ⟨r, 4, none⟩ u4).setCell ⟨r, 5, none⟩ u5).setCell ⟨r, 6, none⟩ u6).setCell ⟨r, 7, none⟩ u7).setCell ⟨r, 8, none⟩ u8).setCell ⟨r, 9, none⟩ u9) r t #[u0, u1, u2, u3, u4, u5, u6, u7, u8, u9] := by
  have h0 : Blk _ r t #[u0, c1, c2, c3, c4, c5, c6, c7, c8, c9] := Blk.set_ h 0 u0
  have h1 : Blk _ r t #[u0, u1, c2, c3, c4, c5, c6, c7, c8, c9] := Blk.set_ h0 1 u1
  have h2 : Blk _ r t #[u0, u1, u2, c3, c4, c5, c6, c7, c8, c9] := Blk.set_ h1 2 u2
  have h3 : Blk _ r t #[u0, u1, u2, u3, c4, c5, c6, c7, c8, c9] := Blk.set_ h2 3 u3
  have h4 : Blk _ r t #[u0, u1, u2, u3, u4, c5, c6, c7, c8, c9] := Blk.set_ h3 4 u4
  have h5 : Blk _ r t #[u0, u1, u2, u3, u4, u5, c6, c7, c8, c9] := Blk.set_ h4 5 u5
  have h6 : Blk _ r t #[u0, u1, u2, u3, u4, u5, u6, c7, c8, c9] := Blk.set_ h5 6 u6
  have h7 : Blk _ r t #[u0, u1, u2, u3, u4, u5, u6, u7, c8, c9] := Blk.set_ h6 7 u7
  have h8 : Blk _ r t #[u0, u1, u2, u3, u4, u5, u6, u7, u8, c9] := Blk.set_ h7 8 u8
  have h9 : Blk _ r t #[u0, u1, u2, u3, u4, u5, u6, u7, u8, u9] := Blk.set_ h8 9 u9
  exact h9
theorem OwnV.beside {w w' : World} {base t : Nat} {cs : Array Value} {x : VRow} (h : OwnV w base x) (k : Aw [t] w w') (ht : Blk w t 42 cs) : OwnV w' base x :=
  h.aw k (fun i hi => by rw [List.mem_singleton.1 hi]; exact ⟨fun n v xs q => own_blk_ne q ht (by decide), fun n v xs q => own_blk_ne q ht (by decide)⟩)
theorem samp_le {l : List UInt8} {a : Nat} (h : a ≤ l.length) : a ≤ (sampP l a false).2.1 ∧ (sampP l a false).2.1 ≤ l.length := by
  unfold sampP
  simp only
  have h1 := nmS_le (l := l) owName false h
  generalize nmS l owName a false = n at h1 ⊢
  have h2 := otagsS_le (l := l) n.2 h1.2
  generalize otagsS l n.1 n.2 = t at h2 ⊢
  have h3 := wordS_le l [32] t.2.1 t.2.2 h2.2
  generalize wordS l [32] t.2.1 t.2.2 = w at h3 ⊢
  have h4 := decS_le l w.1 w.2 h3.2
  generalize decS l w.1 w.2 = d at h4 ⊢
  split
  · rename_i hi
    have := (isB_lt hi).1
    have h5 := decS_le l (d.1 + 1) false (by omega)
    simp only
    omega
  · simp only; omega
/-- What holds behind a line, ahead of its line feed. -/
def LineX (w0 wx : World) (g r : Nat) (ov : Value) (s : ByteArray) (acc : List VRow) (f p : Nat) (RR : List MRow × Nat × Bool) : Prop :=
  ∃ (x : VRow) (p2 : Nat) (n2 : Bool), RQ w0 wx g ov s p2 n2 acc ∧ RB wx r x ∧ OwnV wx w0.heap.size x ∧ p2 ≤ s.size ∧ Hid (∀ p3 n3, wordS s.data.toList [10] p2 n2 = (p3, n3) → ORef s.data.toList f p3 n3 (acc.map VRow.row ++ [x.row]) RR ∧ p ≤ p3 ∧ p3 ≤ s.data.toList.length ∧ (n3 = false → p < p3))
def zeroV : VRow := ⟨zeroRow, none, 0, none, 0⟩
theorem lineX_fell {w0 wx : World} {g r : Nat} {ov : Value} {s : ByteArray} {acc : List VRow} {f p p2 : Nat} {RR : List MRow × Nat × Bool} {x : VRow} (h : RQ w0 wx g ov s p2 true acc) (hb : RB wx r x) (ho : OwnV wx w0.heap.size x) (h2 : p2 ≤ s.size) (h1 : p ≤ p2) (hR : RR = (acc.map VRow.row, p2, true)) : LineX w0 wx g r ov s acc f p RR :=
  ⟨x, p2, true, h, hb, ho, h2, Lib.hid (fun p3 n3 e => by
    rw [wordS_no] at e
    injection e with e1 e2
    subst e1 e2
    exact ⟨.inr ⟨rfl, by rw [hR]⟩, h1, by simpa using h2, fun h => by cases h⟩)⟩
theorem lineX_row {w0 wx : World} {g r : Nat} {ov : Value} {s : ByteArray} {acc : List VRow} {f p p2 : Nat} {n2 : Bool} {RR : List MRow × Nat × Bool} {x : VRow} {R : MRow} (h : RQ w0 wx g ov s p2 n2 acc) (hb : RB wx r x) (ho : OwnV wx w0.heap.size x) (h2 : p2 ≤ s.size) (hp : p ≤ s.size) (hI : ORef s.data.toList (f + 1) p false (acc.map VRow.row) RR) (hl : olineS s.data.toList p = ((some R, false), wordS s.data.toList [10] p2 n2)) (hx : n2 = false → x.row = R) : LineX w0 wx g r ov s acc f p RR :=
  ⟨x, p2, n2, h, hb, ho, h2, Lib.hid (fun p3 n3 e => by
    rw [e] at hl
    refine oref_row (by simpa using hp) hI hl (fun h3 => hx ?_)
    cases n2
    · rfl
    · rw [wordS_no] at e
      injection e with _ e2
      rw [h3] at e2; cases e2)⟩
set_option maxRecDepth 100000 in
set_option maxHeartbeats 12800000 in
theorem rows17_any (s : ByteArray) (w : World) (hs : s.size ≤ 1048576) :
    Calls Tryd.prog 10 #[.string s] w fun e w' => RowsE2 (openRows s.data.toList) e w' ∧ Below w.heap.size w w' := by
  have HL : Hid (s.data.toList.length = s.size) := Lib.hid (by simp)
  have hs2 : s.size ≤ 4611686018427387904 := Nat.le_trans hs (by decide)
  have H0 : Hid (ORef s.data.toList (s.data.toList.length + 2) 0 false [] (openRows s.data.toList)) := Lib.hid (.inl ⟨rfl, by omega, rfl⟩)
  generalize openRows s.data.toList = RR at H0 ⊢
  obtain ⟨i2, hi2, jz0, jz1, jz2⟩ := info_parts Tryd.infoRow
  have hut : Tryd.prog.underlying 23 = some (.slice 42) := by kernel_rfl
  have RQ0 : RQ w (w.alloc (.cells #[.string s, .int .i64 0, .bool false] 54)) w.heap.size (.slice none 0 0) s 0 false [] :=
    ⟨Blk.new w _ _, World.ownsRow_nil _ _ _ _, by simp, (Below.refl _ _).alloc (Nat.le_refl _) _, Nat.le_refl _⟩
  go_enter Tryd.func10, Tryd.ntmps10
  go_wp2_with fail
  generalize w.alloc (.cells #[.string s, .int .i64 0, .bool false] 54) = wi at RQ0 ⊢
  generalize hg : w.heap.size = g at RQ0 ⊢
  go_loopw [5] (fun ov wr => ∃ (p f : Nat) (np : Bool) (acc : List VRow), p ≤ s.size ∧ acc.length ≤ p + 1 ∧ (np = false → acc.length ≤ p) ∧ RQ w wr g ov s p np acc ∧ Hid (ORef s.data.toList f p np (acc.map VRow.row) RR)) (fun _ wr => mOf wr g s)
  case atStart => exact ⟨0, _, false, [], by omega, by simp, by simp, RQ0, H0⟩
  case round =>
    clear RQ0 H0
    obtain ⟨p, f, np, acc, hp, hacc, hacc2, hX, HI⟩ := hrel
    have hm0 := hX.sr.mOf
    obtain ⟨⟨c0, c1, c2⟩, f1, f2⟩ := hX.sr.facts
    cases np
    case true =>
      have hR : RR.2 = (p, true) := by
        rcases HI.out with ⟨h, _⟩ | ⟨_, h⟩
        · cases h
        · exact h
      have HR := Lib.hid hR
      clear HI hR hacc2
      go_wp2_with fail
      go_quiet (fail)
      go_wp2_with fail
      go_ret2
      subst hg
      exact ⟨rowsE2_no HR.out, bl_drewN hX.bl _⟩
    case false =>
      have hacc3 : acc.length ≤ p := hacc2 rfl
      clear hacc2
      obtain ⟨f, rfl⟩ : ∃ f', f = f' + 1 := by
        rcases HI.out with ⟨_, h, _⟩ | ⟨h, _⟩
        · exact ⟨f - 1, by have := HL.out; omega⟩
        · cases h
      have kN := fun W h => next_any g s p false W h hs2 hp
      generalize hC : bt s.data.toList p = C at kN
      go_upto_region 6 with fail
      have L1 := hX.away ((Aw.refl _ _).alloc (.cells #[.int .i64 0, .string ⟨#[]⟩, .int .i64 0, .slice none 0 0, .slice none 0 0, .string ⟨#[]⟩, .int .i64 0, .bool false, .string ⟨#[]⟩, .int .i64 0] 42))
      have hB := Blk.new wr 42 #[.int .i64 0, .string ⟨#[]⟩, .int .i64 0, .slice none 0 0, .slice none 0 0, .string ⟨#[]⟩, .int .i64 0, .bool false, .string ⟨#[]⟩, .int .i64 0]
      have hrb : w.heap.size ≤ wr.heap.size := hX.bl.size
      have hrv : u5.ownBlock ≠ some wr.heap.size := fun e => by have := (hX.own.lt _ e).2; omega
      generalize wr.alloc _ = W1 at L1 hB ⊢
      generalize wr.heap.size = r at hB hrb hrv ⊢
      clear c0 c1 c2 f1 f2 hX
      have hgr : r ∉ [g] := by have := Blk.ne_ L1.sr hB (by decide); simp; omega
      go_upto_if 18 with (go_at_call 21; (with_reducible refine (kN _ L1.sr).mono ?_); rintro e w2 ⟨rfl, q1, rfl⟩; have L2 := L1.away ((Aw.refl _ _).drewN q1); have hB2 := hB.drewN q1)
      generalize W1.drewN q1 = W2 at L2 hB2 ⊢
      clear L1 hB kN
      go_cut [] from 11 to 48 (fun wx => LineX w wx g r u5 s acc f p RR)
      case first =>
        obtain ⟨⟨c0, c1, c2⟩, f1, f2⟩ := L2.sr.facts
        cases hq : (C == 35)
        case false =>
          obtain ⟨R, p2, n2, hS⟩ : ∃ R p2 n2, sampP s.data.toList p false = (R, p2, n2) := ⟨_, _, _, rfl⟩
          have hl : olineS s.data.toList p = ((some R, false), wordS s.data.toList [10] p2 n2) := by
            rw [oline_samp (by rw [hC]; exact hq), hS]
          have hp2 : p2 ≤ s.size := by
            have h1 := samp_le (l := s.data.toList) (a := p) (by rw [HL.out]; exact hp)
            rw [hS, HL.out] at h1
            exact h1.2
          have kS := fun W h => samp17_any g s p R p2 n2 W h hp hs hS
          have HI2 := Lib.hid hl
          clear hS hl hC
          go_wp2_with (go_at_call 24; (with_reducible refine (kS _ L2.sr).mono ?_); rintro e w4 ⟨v, rfl, ⟨x, rfl, hox, hxr⟩, h4, hA4⟩; have L4 := L2.call h4 hA4 (by simp); have hB4 := Blk.aw hB2 hA4 hgr; have hRw4 : Rw w4 r 0 ⟨#[]⟩ 0 (.slice none 0 0) ⟨#[]⟩ 0 false ⟨#[]⟩ 0 := hB4; obtain ⟨⟨e0, e1, e2, e3, e4, e5, e6, e7, e8, e9⟩, v0, v1, v2, v3, v4, v5, v6, v7, v8, v9⟩ := hRw4.facts)
          go_meet
          have hox4 : OwnV w4 w.heap.size x := ⟨own_more hox.1 L2.bl.size, own_more hox.2 L2.bl.size⟩
          have k10 : Aw [r] w4 _ := Aw.ten' (q := r) (w := w4) (p0 := ⟨r, 0, none⟩) (p1 := ⟨r, 1, none⟩) (p2 := ⟨r, 2, none⟩) (p3 := ⟨r, 3, none⟩) (p4 := ⟨r, 4, none⟩) (p5 := ⟨r, 5, none⟩) (p6 := ⟨r, 6, none⟩) (p7 := ⟨r, 7, none⟩) (p8 := ⟨r, 8, none⟩) (p9 := ⟨r, 9, none⟩) (u0 := .int .i64 (x.row.kind : Int)) (u1 := .string x.row.name) (u2 := .int .i64 (x.row.off : Int)) (u3 := .slice x.tA x.row.tags.length x.tc) (u4 := .slice x.fA x.row.fields.length x.fc) (u5 := .string x.row.text) (u6 := .int .i64 (x.row.pos : Int)) (u7 := .bool x.row.timed) (u8 := .string x.row.time) (u9 := .int .i64 (x.row.when_ : Int)) rfl rfl rfl rfl rfl rfl rfl rfl rfl rfl
          exact lineX_row (L4.beside k10 hB4 hrb hrv) (Blk.ten hB4 _ _ _ _ _ _ _ _ _ _) (hox4.beside k10 hB4) hp2 hp HI.out HI2.out hxr
        case true =>
          obtain ⟨p1, m1, hH⟩ : ∃ p1 m1, wordS s.data.toList wHash p false = (p1, m1) := ⟨_, _, rfl⟩
          have hp1 := wordS_le s.data.toList wHash p false (by rw [HL.out]; exact hp)
          rw [hH, HL.out] at hp1
          simp only at hp1
          have kH := fun W h => lit_any g s ⟨#[35, 32]⟩ p false p1 m1 W h hp hs (by decide) hH
          cases m1
          case true =>
            have hl := oline_fell (by rw [hC]; exact hq) hH
            have HR : Hid (RR = (acc.map VRow.row, p1, true)) := Lib.hid (oref_last HI.out (by rw [hl]) (by rw [hl]; exact oend_no _ _))
            clear hl hH hC
            go_wp2_with (go_at_call 22; (with_reducible refine (kH _ L2.sr).mono ?_); rintro e w4 ⟨rfl, h4, hA4⟩; have L4 := L2.call h4 hA4 (by simp); have hB4 := Blk.aw hB2 hA4 hgr; obtain ⟨⟨t0, t1, t2⟩, _⟩ := L4.sr.facts)
            go_meet
            exact lineX_fell (x := zeroV) L4 hB4 ⟨World.ownsRow_nil _ _ _ _, World.ownsRow_nil _ _ _ _⟩ hp1.2 hp1.1 HR.out
          case false =>
            obtain ⟨q, p2, n2, hT⟩ : ∃ q p2 n2, toldX s.data.toList p1 = (q, p2, n2) := ⟨_, _, _, rfl⟩
            have hp2 := toldX_le (l := s.data.toList) (a := p1) (by rw [HL.out]; exact hp1.2)
            rw [hT, HL.out] at hp2
            simp only at hp2
            have kT := fun W h => told17_any g s p1 q p2 n2 W h hp1.2 hs hT
            cases q
            case none =>
              obtain ⟨hl1, hl2⟩ := oline_end (by rw [hC]; exact hq) hH hT
              have HR : Hid (RR = (acc.map VRow.row, p2, n2)) := Lib.hid (oref_last HI.out hl1 hl2)
              clear hl1 hl2 hH hT hC
              cases n2
              case true =>
                go_upto_region 10 with (first
                  | (go_at_call 22; (with_reducible refine (kH _ L2.sr).mono ?_); rintro e w4 ⟨rfl, h4, hA4⟩; have L4 := L2.call h4 hA4 (by simp); have hB4 := Blk.aw hB2 hA4 hgr; obtain ⟨⟨t0, t1, t2⟩, _⟩ := L4.sr.facts)
                  | (go_at_call 23; (with_reducible refine (kT _ L4.sr).mono ?_); rintro e w6 ⟨v, rfl, ⟨x, rfl, hox, hxr⟩, h6, hA6⟩; have HXR := Lib.hid hxr; clear hxr; have L6 := L4.call h6 hA6 (by simp); have hB6 := Blk.aw hB4 hA6 hgr; have hRw6 : Rw w6 r 0 ⟨#[]⟩ 0 (.slice none 0 0) ⟨#[]⟩ 0 false ⟨#[]⟩ 0 := hB6; obtain ⟨⟨e0, e1, e2, e3, e4, e5, e6, e7, e8, e9⟩, v0, v1, v2, v3, v4, v5, v6, v7, v8, v9⟩ := hRw6.facts; obtain ⟨⟨t0, t1, t2⟩, _⟩ := L6.sr.facts; have hox6 : OwnV w6 w.heap.size x := ⟨own_more hox.1 L4.bl.size, own_more hox.2 L4.bl.size⟩; have k10 : Aw [r] w6 _ := Aw.ten' (q := r) (w := w6) (p0 := ⟨r, 0, none⟩) (p1 := ⟨r, 1, none⟩) (p2 := ⟨r, 2, none⟩) (p3 := ⟨r, 3, none⟩) (p4 := ⟨r, 4, none⟩) (p5 := ⟨r, 5, none⟩) (p6 := ⟨r, 6, none⟩) (p7 := ⟨r, 7, none⟩) (p8 := ⟨r, 8, none⟩) (p9 := ⟨r, 9, none⟩) (u0 := .int .i64 (x.row.kind : Int)) (u1 := .string x.row.name) (u2 := .int .i64 (x.row.off : Int)) (u3 := .slice x.tA x.row.tags.length x.tc) (u4 := .slice x.fA x.row.fields.length x.fc) (u5 := .string x.row.text) (u6 := .int .i64 (x.row.pos : Int)) (u7 := .bool x.row.timed) (u8 := .string x.row.time) (u9 := .int .i64 (x.row.when_ : Int)) rfl rfl rfl rfl rfl rfl rfl rfl rfl rfl; have LT := L6.beside k10 hB6 hrb hrv; have HT : RB _ r x := Blk.ten hB6 _ _ _ _ _ _ _ _ _ _; have OT := hox6.beside k10 hB6))
                clear k10
                revert LT HT OT
                generalize World.setCell _ _ _ = WT
                intro LT HT OT
                clear L6 hB6 hRw6 hox6 e0 e1 e2 e3 e4 e5 e6 e7 e8 e9 v0 v1 v2 v3 v4 v5 v6 v7 v8 v9 L4 hB4 t0 t1 t2 hox
                obtain ⟨⟨y0, y1, y2⟩, _⟩ := LT.sr.facts
                go_wp2_with fail
                go_meet
                exact lineX_fell LT HT OT hp2.2 (by omega) HR.out
              case false =>
                go_upto_region 10 with (first
                  | (go_at_call 22; (with_reducible refine (kH _ L2.sr).mono ?_); rintro e w4 ⟨rfl, h4, hA4⟩; have L4 := L2.call h4 hA4 (by simp); have hB4 := Blk.aw hB2 hA4 hgr; obtain ⟨⟨t0, t1, t2⟩, _⟩ := L4.sr.facts)
                  | (go_at_call 23; (with_reducible refine (kT _ L4.sr).mono ?_); rintro e w6 ⟨v, rfl, ⟨x, rfl, hox, hxr⟩, h6, hA6⟩; have HXR := Lib.hid hxr; clear hxr; have L6 := L4.call h6 hA6 (by simp); have hB6 := Blk.aw hB4 hA6 hgr; have hRw6 : Rw w6 r 0 ⟨#[]⟩ 0 (.slice none 0 0) ⟨#[]⟩ 0 false ⟨#[]⟩ 0 := hB6; obtain ⟨⟨e0, e1, e2, e3, e4, e5, e6, e7, e8, e9⟩, v0, v1, v2, v3, v4, v5, v6, v7, v8, v9⟩ := hRw6.facts; obtain ⟨⟨t0, t1, t2⟩, _⟩ := L6.sr.facts; have hox6 : OwnV w6 w.heap.size x := ⟨own_more hox.1 L4.bl.size, own_more hox.2 L4.bl.size⟩; have k10 : Aw [r] w6 _ := Aw.ten' (q := r) (w := w6) (p0 := ⟨r, 0, none⟩) (p1 := ⟨r, 1, none⟩) (p2 := ⟨r, 2, none⟩) (p3 := ⟨r, 3, none⟩) (p4 := ⟨r, 4, none⟩) (p5 := ⟨r, 5, none⟩) (p6 := ⟨r, 6, none⟩) (p7 := ⟨r, 7, none⟩) (p8 := ⟨r, 8, none⟩) (p9 := ⟨r, 9, none⟩) (u0 := .int .i64 (x.row.kind : Int)) (u1 := .string x.row.name) (u2 := .int .i64 (x.row.off : Int)) (u3 := .slice x.tA x.row.tags.length x.tc) (u4 := .slice x.fA x.row.fields.length x.fc) (u5 := .string x.row.text) (u6 := .int .i64 (x.row.pos : Int)) (u7 := .bool x.row.timed) (u8 := .string x.row.time) (u9 := .int .i64 (x.row.when_ : Int)) rfl rfl rfl rfl rfl rfl rfl rfl rfl rfl; have LT := L6.beside k10 hB6 hrb hrv; have HT : RB _ r x := Blk.ten hB6 _ _ _ _ _ _ _ _ _ _; have OT := hox6.beside k10 hB6))
                clear k10
                revert LT HT OT
                generalize World.setCell _ _ _ = WT
                intro LT HT OT
                clear L6 hB6 hRw6 hox6 e0 e1 e2 e3 e4 e5 e6 e7 e8 e9 v0 v1 v2 v3 v4 v5 v6 v7 v8 v9 L4 hB4 t0 t1 t2 hox
                obtain ⟨⟨y0, y1, y2⟩, _⟩ := LT.sr.facts
                go_wp2_with fail
                obtain ⟨A, c, rfl, hrows⟩ := LT.has
                go_ret2
                subst hg
                exact ⟨rowsE2_yes HR.out hrows, LT.bl⟩
            case some R =>
              have hl := oline_told (by rw [hC]; exact hq) hH hT
              have HI2 := Lib.hid hl
              clear hl hH hT hC
              cases n2
              all_goals
                go_upto_region 10 with (first
                  | (go_at_call 22; (with_reducible refine (kH _ L2.sr).mono ?_); rintro e w4 ⟨rfl, h4, hA4⟩; have L4 := L2.call h4 hA4 (by simp); have hB4 := Blk.aw hB2 hA4 hgr; obtain ⟨⟨t0, t1, t2⟩, _⟩ := L4.sr.facts)
                  | (go_at_call 23; (with_reducible refine (kT _ L4.sr).mono ?_); rintro e w6 ⟨v, rfl, ⟨x, rfl, hox, hxr⟩, h6, hA6⟩; have HXR := Lib.hid hxr; clear hxr; have L6 := L4.call h6 hA6 (by simp); have hB6 := Blk.aw hB4 hA6 hgr; have hRw6 : Rw w6 r 0 ⟨#[]⟩ 0 (.slice none 0 0) ⟨#[]⟩ 0 false ⟨#[]⟩ 0 := hB6; obtain ⟨⟨e0, e1, e2, e3, e4, e5, e6, e7, e8, e9⟩, v0, v1, v2, v3, v4, v5, v6, v7, v8, v9⟩ := hRw6.facts; obtain ⟨⟨t0, t1, t2⟩, _⟩ := L6.sr.facts; have hox6 : OwnV w6 w.heap.size x := ⟨own_more hox.1 L4.bl.size, own_more hox.2 L4.bl.size⟩; have k10 : Aw [r] w6 _ := Aw.ten' (q := r) (w := w6) (p0 := ⟨r, 0, none⟩) (p1 := ⟨r, 1, none⟩) (p2 := ⟨r, 2, none⟩) (p3 := ⟨r, 3, none⟩) (p4 := ⟨r, 4, none⟩) (p5 := ⟨r, 5, none⟩) (p6 := ⟨r, 6, none⟩) (p7 := ⟨r, 7, none⟩) (p8 := ⟨r, 8, none⟩) (p9 := ⟨r, 9, none⟩) (u0 := .int .i64 (x.row.kind : Int)) (u1 := .string x.row.name) (u2 := .int .i64 (x.row.off : Int)) (u3 := .slice x.tA x.row.tags.length x.tc) (u4 := .slice x.fA x.row.fields.length x.fc) (u5 := .string x.row.text) (u6 := .int .i64 (x.row.pos : Int)) (u7 := .bool x.row.timed) (u8 := .string x.row.time) (u9 := .int .i64 (x.row.when_ : Int)) rfl rfl rfl rfl rfl rfl rfl rfl rfl rfl; have LT := L6.beside k10 hB6 hrb hrv; have HT : RB _ r x := Blk.ten hB6 _ _ _ _ _ _ _ _ _ _; have OT := hox6.beside k10 hB6))
                clear k10
                revert LT HT OT
                generalize World.setCell _ _ _ = WT
                intro LT HT OT
                clear L6 hB6 hRw6 hox6 e0 e1 e2 e3 e4 e5 e6 e7 e8 e9 v0 v1 v2 v3 v4 v5 v6 v7 v8 v9 L4 hB4 t0 t1 t2 hox
                obtain ⟨⟨y0, y1, y2⟩, _⟩ := LT.sr.facts
                go_wp2_with fail
                go_meet
                refine lineX_row LT HT OT hp2.2 hp HI.out HI2.out ?_
                intro e
                first
                  | exact HXR.out trivial
                  | cases e
      case rest =>
        obtain ⟨x, p2, n2, L5, hB5, hox5, hp2, HN⟩ := hcut
        obtain ⟨p3, n3, hW⟩ : ∃ p3 n3, wordS s.data.toList [10] p2 n2 = (p3, n3) := ⟨_, _, rfl⟩
        obtain ⟨hI3, hp3, hp3', hlt⟩ := HN.out p3 n3 hW
        rw [HL.out] at hp3'
        have HI3 := Lib.hid hI3
        have kW := fun W h => lit_any g s ⟨#[10]⟩ p2 n2 p3 n3 W h hp2 hs (by decide) hW
        clear hI3 hW HN HI L2 hB2 hC
        go_upto_region 14 with (go_at_call 22; (with_reducible refine (kW _ L5.sr).mono ?_); rintro e w6 ⟨rfl, h6, hA6⟩; have L6 := L5.call h6 hA6 (by simp); have hB6 := Blk.aw hB5 hA6 hgr; have hox6 := hox5.aw hA6 (fun i hi => by rw [List.mem_singleton.1 hi]; exact ⟨fun n v xs q => own_blk_ne q L5.sr (by decide), fun n v xs q => own_blk_ne q L5.sr (by decide)⟩))
        have x0 := (Blk.cell hB6 0).trans rfl
        have x1 := (Blk.cell hB6 1).trans rfl
        have x2 := (Blk.cell hB6 2).trans rfl
        have x3 := (Blk.cell hB6 3).trans rfl
        have x4 := (Blk.cell hB6 4).trans rfl
        have x5 := (Blk.cell hB6 5).trans rfl
        have x6 := (Blk.cell hB6 6).trans rfl
        have x7 := (Blk.cell hB6 7).trans rfl
        have x8 := (Blk.cell hB6 8).trans rfl
        have x9 := (Blk.cell hB6 9).trans rfl
        have L7 := L6.away ((Aw.refl _ _).alloc (.cells #[.int .i64 (x.row.kind : Int), .string x.row.name, .int .i64 (x.row.off : Int), .slice x.tA x.row.tags.length x.tc, .slice x.fA x.row.fields.length x.fc, .string x.row.text, .int .i64 (x.row.pos : Int), .bool x.row.timed, .string x.row.time, .int .i64 (x.row.when_ : Int)] 42))
        have hox7 : OwnV (w6.alloc (.cells #[.int .i64 (x.row.kind : Int), .string x.row.name, .int .i64 (x.row.off : Int), .slice x.tA x.row.tags.length x.tc, .slice x.fA x.row.fields.length x.fc, .string x.row.text, .int .i64 (x.row.pos : Int), .bool x.row.timed, .string x.row.time, .int .i64 (x.row.when_ : Int)] 42)) w.heap.size x := hox6.aw (S := []) ((Aw.refl _ _).alloc _) (fun i hi => by simp at hi)
        go_wp2_with (at_builtin; go_loud (refine wpList_append_lies _ (by rfl) _ _ _ (by rfl) w.heap.size 42 i2 _ 10 136 hut hi2 jz0 jz1 jz2 rfl (by omega) u5 acc.length (acc.flatMap rowCell) (by rfl) (own_aw L6.own (S := []) ((Aw.refl _ _).alloc _) (fun i hi e => by simp at e)) ⟨w6.heap.size, 0, none⟩ 1 1 (rowCell x) (by rfl) (by rfl) (World.news_of_block (heap_alloc_new w6 _)) (by simp [rowCell, Value.oneCell']) (by omega) (by simp [maxLen]; omega) (by omega) (by have := L6.bl.size; simp; omega) (w6.heap.size + 1) (by simp) ?_); intro gg capg w9 hown9 hgrow hat9 hlt9; have L10 := L7.app ((Aw.refl _ _).grown hgrow (fun k hk => .inl (by simp [hk]))) hox7 hown9)
        refine ⟨⟨p3, f, n3, acc ++ [x], hp3', by simp; omega, fun e => by have := hlt e; simp; omega, L10, by simpa using HI3⟩, ?_⟩
        rw [L10.sr.mOf, hm0]
        cases n3
        · have := hlt rfl; simp; omega
        · simp; omega
end Go.Proofs.YtdngieihlcknmaaDoor
