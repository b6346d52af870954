/- The walk of template.Compile. -/
import Derived.Test.YtodgfapgmmjpcaaGreatDoorTplH
import Derived.Test.YtodgfapgmmjpcaaGreatDoorTplP
namespace Go.Proofs.YtodgfapgmmjpcaaGreatDoor
set_option linter.unusedVariables false
set_option linter.unusedSimpArgs false
open Go.RowKit
/-- What Compile hands back. -/
def CompE (s : ByteArray) (w' : World) : Except (Nat × Nat) MRule → Ending → Prop
  | .error x, e => e = .returned (.tuple #[.agg #[.slice none 0 0, .slice none 0 0, .slice none 0 0], .agg #[.int .i64 (x.1 : Int), .int .i64 (fltO x.1 s x.2), .int .i64 (fltL x.1 s x.2), .int .i64 (fltC x.1 s x.2)]])
  | .ok R, e => ∃ y : VRule, e = .returned (.tuple #[.agg #[.slice y.fA y.rule.filter.length y.fC, .slice y.pA y.rule.parts.length y.pC, .slice y.eA y.rule.extra.length y.eC], .agg #[.int .i64 0, .int .i64 0, .int .i64 0, .int .i64 0]]) ∧ y.rule = R ∧ RuleAt w' w'.heap.size y
/-- The results' blocks. -/
structure RB (w0 w : World) : Prop where
  r : Blk w w0.heap.size 25 #[.slice none 0 0, .slice none 0 0, .slice none 0 0]
  q : Blk w (w0.heap.size + 1) 43 #[.int .i64 0, .int .i64 0, .int .i64 0, .int .i64 0]
  bl : Below w0.heap.size w0 w
section
variable {w0 w w' : World}
theorem RB.lt (h : RB w0 w) : w0.heap.size + 2 ≤ w.heap.size := by have := Blk.lt h.q; omega
theorem RB.aw {S : List Nat} (h : RB w0 w) (k : Aw S w w') (hS : ∀ i, i ∈ S → w0.heap.size + 2 ≤ i) : RB w0 w' :=
  ⟨Blk.aw h.r k (fun e => by have := hS _ e; omega), Blk.aw h.q k (fun e => by have := hS _ e; omega), h.bl.trans (k.bel_of (fun i hi => by have := hS i hi; omega) (by have := h.lt; omega))⟩
theorem RB.bel (h : RB w0 w) (k : Below w.heap.size w w') : RB w0 w' := ⟨h.r.below k (Blk.lt h.r), h.q.below k (Blk.lt h.q), bl_any h.bl k⟩
theorem RB.alloc (h : RB w0 w) (o : Obj) : RB w0 (w.alloc o) := h.bel ((Below.refl _ _).alloc (Nat.le_refl _) o)
theorem RB.facts (h : RB w0 w) : (w.cell? ⟨w0.heap.size, 0, none⟩ = some (.slice none 0 0) ∧ w.cell? ⟨w0.heap.size, 1, none⟩ = some (.slice none 0 0) ∧ w.cell? ⟨w0.heap.size, 2, none⟩ = some (.slice none 0 0)) ∧
    (w.cell? ⟨w0.heap.size + 1, 0, none⟩ = some (.int .i64 0) ∧ w.cell? ⟨w0.heap.size + 1, 1, none⟩ = some (.int .i64 0) ∧ w.cell? ⟨w0.heap.size + 1, 2, none⟩ = some (.int .i64 0) ∧ w.cell? ⟨w0.heap.size + 1, 3, none⟩ = some (.int .i64 0)) ∧
    (w.frozen? ⟨w0.heap.size, 0, none⟩ = false ∧ w.frozen? ⟨w0.heap.size, 1, none⟩ = false ∧ w.frozen? ⟨w0.heap.size, 2, none⟩ = false) ∧
    (w.frozen? ⟨w0.heap.size + 1, 0, none⟩ = false ∧ w.frozen? ⟨w0.heap.size + 1, 1, none⟩ = false ∧ w.frozen? ⟨w0.heap.size + 1, 2, none⟩ = false ∧ w.frozen? ⟨w0.heap.size + 1, 3, none⟩ = false) :=
  ⟨⟨(Blk.cell h.r 0).trans rfl, (Blk.cell h.r 1).trans rfl, (Blk.cell h.r 2).trans rfl⟩, ⟨(Blk.cell h.q 0).trans rfl, (Blk.cell h.q 1).trans rfl, (Blk.cell h.q 2).trans rfl, (Blk.cell h.q 3).trans rfl⟩, ⟨Blk.frozen h.r 0, Blk.frozen h.r 1, Blk.frozen h.r 2⟩, ⟨Blk.frozen h.q 0, Blk.frozen h.q 1, Blk.frozen h.q 2, Blk.frozen h.q 3⟩⟩
/-- The results are written: the world, cell by cell. -/
def outW (w : World) (g : Nat) (a b c x0 x1 x2 x3 : Value) : World :=
  ((((((w.setCell ⟨g, 0, none⟩ a).setCell ⟨g, 1, none⟩ b).setCell ⟨g, 2, none⟩ c).setCell ⟨g + 1, 0, none⟩ x0).setCell ⟨g + 1, 1, none⟩ x1).setCell ⟨g + 1, 2, none⟩ x2).setCell ⟨g + 1, 3, none⟩ x3
theorem RB.out (h : RB w0 w) (a b c x0 x1 x2 x3 : Value) : Below w0.heap.size w0 (outW w w0.heap.size a b c x0 x1 x2 x3) ∧ Aw [w0.heap.size, w0.heap.size + 1] w (outW w w0.heap.size a b c x0 x1 x2 x3) :=
  ⟨bl_set (bl_set (bl_set (bl_set (bl_set (bl_set (bl_set h.bl (Nat.le_refl _) _) (Nat.le_refl _) _) (Nat.le_refl _) _) (by simp) _) (by simp) _) (by simp) _) (by simp) _,
   ((((((((Aw.refl [w0.heap.size, w0.heap.size + 1] w).setCell (p := ⟨w0.heap.size, 0, none⟩) (.inl (by simp)) a).setCell (p := ⟨w0.heap.size, 1, none⟩) (.inl (by simp)) b).setCell (p := ⟨w0.heap.size, 2, none⟩) (.inl (by simp)) c).setCell (p := ⟨w0.heap.size + 1, 0, none⟩) (.inl (by simp)) x0).setCell (p := ⟨w0.heap.size + 1, 1, none⟩) (.inl (by simp)) x1).setCell (p := ⟨w0.heap.size + 1, 2, none⟩) (.inl (by simp)) x2).setCell (p := ⟨w0.heap.size + 1, 3, none⟩) (.inl (by simp)) x3)⟩
end
set_option maxRecDepth 100000 in
set_option maxHeartbeats 12800000 in
theorem compile_any (s : ByteArray) (w : World) (hs : s.size ≤ 4611686018427387903) (hM : (compS s.data.toList).2.1 ≤ 1048576) :
    Calls Tryz.prog 15 #[.string s] w fun e w' => CompE s w' (compT s.data.toList) e ∧ Below w.heap.size w w' := by
  have hs2 : s.size ≤ 4611686018427387904 := by omega
  have hL : s.data.toList.length = s.size := by simp
  obtain ⟨F, a1, n1, hf⟩ : ∃ F a1 n1, fltS s.data.toList = (F, a1, n1) := ⟨_, _, _, rfl⟩
  obtain ⟨a2, n2, hw⟩ : ∃ a2 n2, wordS s.data.toList [32] a1 n1 = (a2, n2) := ⟨_, _, rfl⟩
  obtain ⟨P, a3, n3, hp⟩ : ∃ P a3 n3, prtGo s.data.toList (s.data.toList.length + 1) a2 n2 [] = (P, a3, n3) := ⟨_, _, _, rfl⟩
  obtain ⟨E, a4, n4, he⟩ : ∃ E a4 n4, extGo s.data.toList (s.data.toList.length + 1) (a3 + 1) false [] = (E, a4, n4) := ⟨_, _, _, rfl⟩
  have hc : compS s.data.toList = if isB s.data.toList a3 n3 32 then (⟨F, P, E⟩, a4, n4) else (⟨F, P, []⟩, a3, n3) := by
    unfold compS
    simp only [hf, hw, hp, he]
  have l1 := fltS_le (l := s.data.toList)
  rw [hf, hL] at l1
  have l2 := wordS_le s.data.toList [32] a1 n1 (by rw [hL]; exact l1)
  rw [hw, hL] at l2
  have l3 := prtGo_le (l := s.data.toList) (s.data.toList.length + 1) a2 n2 [] (by rw [hL]; exact l2.2)
  rw [hp] at l3
  simp only [hL] at l1 l2 l3
  have hcT : compT s.data.toList = if (compS s.data.toList).2.2 || decide ((compS s.data.toList).2.1 ≠ s.data.toList.length) then .error (11, (compS s.data.toList).2.1)
    else if goodR (compS s.data.toList).1 then .ok (compS s.data.toList).1 else .error (19, 0) := rfl
  rw [hL] at hcT
  generalize compT s.data.toList = R at hcT ⊢
  have k11 : ∀ o W, Calls Tryz.prog 20 #[.int .i64 11, .string s, .int .i64 o] W fun e w' => e = .returned (.agg #[.int .i64 11, .int .i64 (fltO 11 s o), .int .i64 (fltL 11 s o), .int .i64 (fltC 11 s o)]) ∧ Below W.heap.size W w' := fun o W => spAt_any 11 s o W hs
  have k19 : ∀ W, Calls Tryz.prog 20 #[.int .i64 19, .string s, .int .i64 0] W fun e w' => e = .returned (.agg #[.int .i64 19, .int .i64 (fltO 19 s 0), .int .i64 (fltL 19 s 0), .int .i64 (fltC 19 s 0)]) ∧ Below W.heap.size W w' := fun W => spAt_any 19 s 0 W hs
  have RB0 : RB w ((w.alloc (.cells #[.slice none 0 0, .slice none 0 0, .slice none 0 0] 25)).alloc (.cells #[.int .i64 0, .int .i64 0, .int .i64 0, .int .i64 0] 43)) := ⟨Blk.alloc (Blk.new w _ _) _, by
    have := Blk.new (w.alloc (.cells #[.slice none 0 0, .slice none 0 0, .slice none 0 0] 25)) 43 #[.int .i64 0, .int .i64 0, .int .i64 0, .int .i64 0]
    simpa using this, bl_alloc (bl_alloc (Below.refl _ _) _) _⟩
  have kNew := new_any s ((w.alloc (.cells #[.slice none 0 0, .slice none 0 0, .slice none 0 0] 25)).alloc (.cells #[.int .i64 0, .int .i64 0, .int .i64 0, .int .i64 0] 43))
  cases hq : isB s.data.toList a3 n3 32
  case true =>
    rw [hq, if_pos rfl] at hc
    have hcc := hc
    have hlt3 := isB_lt hq
    rw [hL] at hlt3
    obtain ⟨hlt3, hn3, _⟩ := hlt3
    subst hn3
    have l4 := extGo_le (l := s.data.toList) (s.data.toList.length + 1) (a3 + 1) false [] (by rw [hL]; omega)
    rw [he] at l4
    simp only [hL] at l4
    rw [hcc] at hM hcT
    simp only at hM hcT
    have hFo := fltS_ok (l := s.data.toList) (by rw [hf]; simp only; omega)
    rw [hf] at hFo
    have hPo := prtGo_ok (l := s.data.toList) (s.data.toList.length + 1) a2 n2 [] (by rw [hL]; exact l2.2) (by simp) (by rw [hp]; simp only; omega)
    rw [hp] at hPo
    simp only [List.length_nil, Nat.zero_add] at hFo hPo
    have hEo := extGo_ok (l := s.data.toList) (s.data.toList.length + 1) (a3 + 1) false [] (by rw [hL]; omega) (by simp) (by rw [he]; simp only; omega)
    rw [he] at hEo
    simp only [List.length_nil, Nat.zero_add] at hEo
    have kF := fun r g W h => filter_any r g s F a1 n1 W h hs2 hf (by omega)
    have kW := fun g W hh => word_any g s ⟨#[32]⟩ a1 n1 a2 n2 W hh l1 hs2 (by decide) hw
    have kP := fun r g fv W h => parts_any r g fv s a2 n2 P a3 false W h l2.2 hs2 hp (by omega)
    have kT := fun g W hh => takes_any g s a3 false 32 W hh l3.2 hs2
    unfold takeA at kT
    rw [hq, if_pos rfl] at kT
    have kE := fun r g fv pv W h => extra_any r g fv pv s (a3 + 1) E a4 n4 W h (by omega) hs2 he (by omega)
    have kS := fun g W hh => stopped_any g s a4 n4 W hh
    have kN := fun g W hh => end_any g s a4 n4 W hh
    have kA := fun g W hh => at_any g s a4 n4 W hh
    clear hf hw hp he hc hcc hq
    go_enter Tryz.func15, Tryz.ntmps15
    go_upto_region 7 with (first
      | (go_at_call 30; (with_reducible refine kNew.mono ?_); rintro e w1 ⟨rfl, h1, hb1, hlt1⟩; have RB1 := (RB0.bel hb1).alloc (.cells #[.pointer (some ⟨w.heap.size + 2, 0, none⟩), .slice none 0 0, .slice none 0 0, .slice none 0 0] 69); have T1 : TR (w1.alloc (.cells #[.pointer (some ⟨w.heap.size + 2, 0, none⟩), .slice none 0 0, .slice none 0 0, .slice none 0 0] 69)) (w1.alloc (.cells #[.pointer (some ⟨w.heap.size + 2, 0, none⟩), .slice none 0 0, .slice none 0 0, .slice none 0 0] 69)) w1.heap.size (w.heap.size + 2) (.slice none 0 0) (.slice none 0 0) (.slice none 0 0) s 0 false := ⟨Blk.new w1 _ _, (by have h1' := Sc.alloc h1 (.cells #[.pointer (some ⟨w.heap.size + 2, 0, none⟩), .slice none 0 0, .slice none 0 0, .slice none 0 0] 69); simpa using h1'), Aw.refl _ _⟩; have hrl : w.heap.size + 2 ≤ w1.heap.size := (by have := hb1.size; simp at this; omega))
      | (go_at_call 31; (with_reducible refine (kF _ _ _ T1).mono ?_); rintro e w2 ⟨rfl, fv, T2, OF2⟩; have RB2 := RB1.aw T2.aw (by simp; omega); obtain ⟨⟨c20, _⟩, _⟩ := T2.facts)
      | (go_at_call 32; (with_reducible refine (kW _ _ T2.sc).mono ?_); rintro e w3 ⟨rfl, h3, hA3⟩; have T3 := T2.scan hA3 h3 (by simp); have OF3 := T2.own OF2 hA3 (by decide) (by decide) (by simp); have RB3 := RB2.aw hA3 (by simp); have T3' : TR w3 w3 w1.heap.size (w.heap.size + 2) fv (.slice none 0 0) (.slice none 0 0) s a2 n2 := ⟨T3.rd, T3.sc, Aw.refl _ _⟩)
      | (go_at_call 33; (with_reducible refine (kP _ _ _ _ T3').mono ?_); rintro e w4 ⟨rfl, pv, T4, OP4⟩; have OF4 := T3'.own OF3 T4.aw (by decide) (by decide) (by simp); have RB4 := RB3.aw T4.aw (by simp; omega); obtain ⟨⟨c40, _⟩, _⟩ := T4.facts)
      | (go_at_call 34; (with_reducible refine (kT _ _ T4.sc).mono ?_); rintro e w5 ⟨rfl, h5, hA5⟩; have T5 := T4.scan hA5 h5 (by simp); have OF5 := T4.own OF4 hA5 (by decide) (by decide) (by simp); have OP5 := T4.own OP4 hA5 (by decide) (by decide) (by simp); have RB5 := RB4.aw hA5 (by simp); have T5' : TR w5 w5 w1.heap.size (w.heap.size + 2) fv pv (.slice none 0 0) s (a3 + 1) false := ⟨T5.rd, T5.sc, Aw.refl _ _⟩)
      | (go_at_call 35; (with_reducible refine (kE _ _ _ _ _ T5').mono ?_); rintro e w6 ⟨rfl, ev, T6, OE6⟩; have OF6 := T5'.own OF5 T6.aw (by decide) (by decide) (by simp); have OP6 := T5'.own OP5 T6.aw (by decide) (by decide) (by simp); have RB6 := RB5.aw T6.aw (by simp; omega)))
    have TX := T6; have OFX := OF6; have OPX := OP6; have RBX := RB6
    obtain ⟨⟨cX0, cX1, cX2, cX3⟩, _⟩ := TX.facts
    obtain ⟨fA, fC, rfl, hrF⟩ := own_rws (f := strCell) (fun _ => rfl) OFX rfl
    obtain ⟨pA, pC, rfl, hrP⟩ := own_rws (f := strCell) (fun _ => rfl) OPX rfl
    obtain ⟨eA, eC, rfl, hrE⟩ := own_rws (f := labCell) (fun _ => rfl) OE6 rfl
    have hok : RuleOk ⟨F, P, E⟩ := ⟨⟨hFo.2, fun z hz => Nat.le_trans (hFo.1 z hz) (by decide)⟩, ⟨by simp only; omega, fun z hz => Nat.le_trans (hPo.1 z hz) (by decide)⟩, ⟨by simp only; omega, fun z hz => ⟨Nat.le_trans (hEo.1 z hz).1 (by decide), Nat.le_trans (hEo.1 z hz).2 (by decide)⟩⟩⟩
    cases n4
    case true =>
      simp only [Bool.true_or, if_true] at hcT
      subst hcT
      clear hok
      go_wp2_with (first
        | (go_at_call 36; (with_reducible refine (kS _ _ TX.sc).mono ?_); rintro e w7 ⟨rfl, rfl⟩)
        | (go_at_call 38; (with_reducible refine (kA _ _ TX.sc).mono ?_); rintro e w8 ⟨rfl, rfl⟩; have RBY := RBX)
        | (go_at_call 20; (with_reducible refine (k11 _ _).mono ?_); rintro e w9 ⟨rfl, hb9⟩; have RB9 := RBY.bel hb9; obtain ⟨⟨y0, y1, y2⟩, ⟨x0, x1, x2, x3⟩, ⟨m0, m1, m2⟩, ⟨m3, m4, m5, m6⟩⟩ := RB9.facts))
      refine bodyPost_ret (v := .tuple #[.agg #[.slice none 0 0, .slice none 0 0, .slice none 0 0], .agg #[.int .i64 11, .int .i64 (fltO 11 s (a4 : Nat)), .int .i64 (fltL 11 s (a4 : Nat)), .int .i64 (fltC 11 s (a4 : Nat))]]) (by simp [results, Tryz.results15, go_sem, y0, y1, y2, x0, x1, x2, x3]) rfl ⟨rfl, (RB9.out _ _ _ _ _ _ _).1⟩
    case false =>
      rw [Bool.false_or] at hcT
      by_cases hend : a4 = s.size
      case neg =>
        have hq2 : (a4 == s.size) = false := by rw [beq_eq_false_iff_ne]; exact hend
        rw [if_pos (by simpa using hend)] at hcT
        subst hcT
        clear hok
        rw [hq2] at kN
        go_wp2_with (first
          | (go_at_call 36; (with_reducible refine (kS _ _ TX.sc).mono ?_); rintro e w7 ⟨rfl, rfl⟩)
          | (go_at_call 37; (with_reducible refine (kN _ _ TX.sc).mono ?_); rintro e w8 ⟨rfl, h8, hA8⟩; have TY := TX.scan hA8 h8 (by simp); have RBY := RBX.aw hA8 (by simp); have hb8 := hA8.none_bel; obtain ⟨⟨cY0, cY1, cY2, cY3⟩, _⟩ := TY.facts)
          | (go_at_call 38; (with_reducible refine (kA _ _ TY.sc).mono ?_); rintro e w10 ⟨rfl, rfl⟩)
          | (go_at_call 20; (with_reducible refine (k11 _ _).mono ?_); rintro e w9 ⟨rfl, hb9⟩; have RB9 := RBY.bel hb9; obtain ⟨⟨y0, y1, y2⟩, ⟨x0, x1, x2, x3⟩, ⟨m0, m1, m2⟩, ⟨m3, m4, m5, m6⟩⟩ := RB9.facts))
        refine bodyPost_ret (v := .tuple #[.agg #[.slice none 0 0, .slice none 0 0, .slice none 0 0], .agg #[.int .i64 11, .int .i64 (fltO 11 s (a4 : Nat)), .int .i64 (fltL 11 s (a4 : Nat)), .int .i64 (fltC 11 s (a4 : Nat))]]) (by simp [results, Tryz.results15, go_sem, y0, y1, y2, x0, x1, x2, x3]) rfl ⟨rfl, (RB9.out _ _ _ _ _ _ _).1⟩
      case pos =>
        have hq2 : (a4 == s.size) = true := by rw [beq_iff_eq]; exact hend
        rw [if_neg (by simpa using hend)] at hcT
        rw [hq2] at kN
        clear hend
        have kG := fun W h => tgood_any ⟨⟨F, P, E⟩, fA, fC, pA, pC, eA, eC⟩ W h hok
        have kC := fun W h => cloned_any ⟨⟨F, P, E⟩, fA, fC, pA, pC, eA, eC⟩ W h hok.f.1 hok.p.1 hok.e.1 (fun z hz => ⟨Nat.le_trans (hEo.1 z hz).1 (by decide), Nat.le_trans (hEo.1 z hz).2 (by decide)⟩)
        have hra : RuleAt w6 w6.heap.size ⟨⟨F, P, E⟩, fA, fC, pA, pC, eA, eC⟩ := ⟨hrF, hrP, hrE⟩
        clear hok
        cases hgood : goodR ⟨F, P, E⟩
        case false =>
          rw [hgood, if_neg (by simp)] at hcT
          subst hcT
          rw [hgood] at kG
          simp only [List.length_nil] at kG
          clear kC
          go_wp2_with (first
            | (go_at_call 36; (with_reducible refine (kS _ _ TX.sc).mono ?_); rintro e w7 ⟨rfl, rfl⟩)
            | (go_at_call 37; (with_reducible refine (kN _ _ TX.sc).mono ?_); rintro e w8 ⟨rfl, h8, hA8⟩; have TY := TX.scan hA8 h8 (by simp); have RBY := RBX.aw hA8 (by simp); have hb8 := hA8.none_bel; obtain ⟨⟨cY0, cY1, cY2, cY3⟩, _⟩ := TY.facts)
            | (go_at_call 17; (with_reducible refine (kG _ (hra.bel hb8)).mono ?_); rintro e w10 ⟨rfl, hb10⟩; have RB8 := RBY.bel hb10; have TZ : Blk w10 w1.heap.size 69 #[.pointer (some ⟨w.heap.size + 2, 0, none⟩), .slice fA F.length fC, .slice pA P.length pC, .slice eA E.length eC] := TY.rd.below hb10 (Blk.lt TY.rd); have g1 := (Blk.cell TZ 1).trans rfl; have g2 := (Blk.cell TZ 2).trans rfl; have g3 := (Blk.cell TZ 3).trans rfl)
            | (go_at_call 20; (with_reducible refine (k19 _).mono ?_); rintro e w9 ⟨rfl, hb9⟩; have RB9 := RB8.bel hb9; obtain ⟨⟨y0, y1, y2⟩, ⟨x0, x1, x2, x3⟩, ⟨m0, m1, m2⟩, ⟨m3, m4, m5, m6⟩⟩ := RB9.facts))
          refine bodyPost_ret (v := .tuple #[.agg #[.slice none 0 0, .slice none 0 0, .slice none 0 0], .agg #[.int .i64 19, .int .i64 (fltO 19 s 0), .int .i64 (fltL 19 s 0), .int .i64 (fltC 19 s 0)]]) (by simp [results, Tryz.results15, go_sem, y0, y1, y2, x0, x1, x2, x3]) rfl ⟨rfl, (RB9.out _ _ _ _ _ _ _).1⟩
        case true =>
          rw [hgood, if_pos rfl] at hcT
          subst hcT
          rw [hgood] at kG
          simp only [List.length_nil] at kG kC
          go_wp2_with (first
            | (go_at_call 36; (with_reducible refine (kS _ _ TX.sc).mono ?_); rintro e w7 ⟨rfl, rfl⟩)
            | (go_at_call 37; (with_reducible refine (kN _ _ TX.sc).mono ?_); rintro e w8 ⟨rfl, h8, hA8⟩; have TY := TX.scan hA8 h8 (by simp); have RBY := RBX.aw hA8 (by simp); have hb8 := hA8.none_bel; obtain ⟨⟨cY0, cY1, cY2, cY3⟩, _⟩ := TY.facts)
            | (go_at_call 17; (with_reducible refine (kG _ (hra.bel hb8)).mono ?_); rintro e w10 ⟨rfl, hb10⟩; have RB8 := RBY.bel hb10; have TZ : Blk w10 w1.heap.size 69 #[.pointer (some ⟨w.heap.size + 2, 0, none⟩), .slice fA F.length fC, .slice pA P.length pC, .slice eA E.length eC] := TY.rd.below hb10 (Blk.lt TY.rd); have g1 := (Blk.cell TZ 1).trans rfl; have g2 := (Blk.cell TZ 2).trans rfl; have g3 := (Blk.cell TZ 3).trans rfl)
            | (go_at_call 39; (with_reducible refine (kC _ ((hra.bel hb8).bel hb10)).mono ?_); rintro e w9 ⟨⟨y, rfl, hy, hry, hab⟩, hb9⟩; have HY := Lib.hid hy; clear hy; have RB9 := RB8.bel hb9; obtain ⟨⟨y0, y1, y2⟩, ⟨x0, x1, x2, x3⟩, ⟨m0, m1, m2⟩, ⟨m3, m4, m5, m6⟩⟩ := RB9.facts))
          refine bodyPost_ret (v := .tuple #[.agg #[.slice y.fA y.rule.filter.length y.fC, .slice y.pA y.rule.parts.length y.pC, .slice y.eA y.rule.extra.length y.eC], .agg #[.int .i64 0, .int .i64 0, .int .i64 0, .int .i64 0]]) (by simp [results, Tryz.results15, go_sem, y0, y1, y2, x0, x1, x2, x3]) rfl ?_
          have ko := RB9.out (.slice y.fA y.rule.filter.length y.fC) (.slice y.pA y.rule.parts.length y.pC) (.slice y.eA y.rule.extra.length y.eC) (.int .i64 0) (.int .i64 0) (.int .i64 0) (.int .i64 0)
          have hml := RB8.lt
          exact ⟨⟨y, rfl, HY.out, (hry.off ko.2 (Nat.le_refl _) hab (by simp; omega)).more ko.2.size⟩, ko.1⟩
  case false =>
    rw [hq, if_neg (by simp)] at hc
    have hcc := hc
    rw [hcc] at hM hcT
    simp only at hM hcT
    have hFo := fltS_ok (l := s.data.toList) (by rw [hf]; simp only; omega)
    rw [hf] at hFo
    have hPo := prtGo_ok (l := s.data.toList) (s.data.toList.length + 1) a2 n2 [] (by rw [hL]; exact l2.2) (by simp) (by rw [hp]; simp only; omega)
    rw [hp] at hPo
    simp only [List.length_nil, Nat.zero_add] at hFo hPo
    have kF := fun r g W h => filter_any r g s F a1 n1 W h hs2 hf (by omega)
    have kW := fun g W hh => word_any g s ⟨#[32]⟩ a1 n1 a2 n2 W hh l1 hs2 (by decide) hw
    have kP := fun r g fv W h => parts_any r g fv s a2 n2 P a3 n3 W h l2.2 hs2 hp (by omega)
    have kT := fun g W hh => takes_any g s a3 n3 32 W hh l3.2 hs2
    unfold takeA at kT
    rw [hq, if_neg (by simp)] at kT
    have kS := fun g W hh => stopped_any g s a3 n3 W hh
    have kN := fun g W hh => end_any g s a3 n3 W hh
    have kA := fun g W hh => at_any g s a3 n3 W hh
    clear hf hw hp he hc hcc hq
    go_enter Tryz.func15, Tryz.ntmps15
    go_upto_region 7 with (first
      | (go_at_call 30; (with_reducible refine kNew.mono ?_); rintro e w1 ⟨rfl, h1, hb1, hlt1⟩; have RB1 := (RB0.bel hb1).alloc (.cells #[.pointer (some ⟨w.heap.size + 2, 0, none⟩), .slice none 0 0, .slice none 0 0, .slice none 0 0] 69); have T1 : TR (w1.alloc (.cells #[.pointer (some ⟨w.heap.size + 2, 0, none⟩), .slice none 0 0, .slice none 0 0, .slice none 0 0] 69)) (w1.alloc (.cells #[.pointer (some ⟨w.heap.size + 2, 0, none⟩), .slice none 0 0, .slice none 0 0, .slice none 0 0] 69)) w1.heap.size (w.heap.size + 2) (.slice none 0 0) (.slice none 0 0) (.slice none 0 0) s 0 false := ⟨Blk.new w1 _ _, (by have h1' := Sc.alloc h1 (.cells #[.pointer (some ⟨w.heap.size + 2, 0, none⟩), .slice none 0 0, .slice none 0 0, .slice none 0 0] 69); simpa using h1'), Aw.refl _ _⟩; have hrl : w.heap.size + 2 ≤ w1.heap.size := (by have := hb1.size; simp at this; omega))
      | (go_at_call 31; (with_reducible refine (kF _ _ _ T1).mono ?_); rintro e w2 ⟨rfl, fv, T2, OF2⟩; have RB2 := RB1.aw T2.aw (by simp; omega); obtain ⟨⟨c20, _⟩, _⟩ := T2.facts)
      | (go_at_call 32; (with_reducible refine (kW _ _ T2.sc).mono ?_); rintro e w3 ⟨rfl, h3, hA3⟩; have T3 := T2.scan hA3 h3 (by simp); have OF3 := T2.own OF2 hA3 (by decide) (by decide) (by simp); have RB3 := RB2.aw hA3 (by simp); have T3' : TR w3 w3 w1.heap.size (w.heap.size + 2) fv (.slice none 0 0) (.slice none 0 0) s a2 n2 := ⟨T3.rd, T3.sc, Aw.refl _ _⟩)
      | (go_at_call 33; (with_reducible refine (kP _ _ _ _ T3').mono ?_); rintro e w4 ⟨rfl, pv, T4, OP4⟩; have OF4 := T3'.own OF3 T4.aw (by decide) (by decide) (by simp); have RB4 := RB3.aw T4.aw (by simp; omega); obtain ⟨⟨c40, _⟩, _⟩ := T4.facts)
      | (go_at_call 34; (with_reducible refine (kT _ _ T4.sc).mono ?_); rintro e w5 ⟨rfl, h5, hA5⟩; have T5 := T4.scan hA5 h5 (by simp); have OF5 := T4.own OF4 hA5 (by decide) (by decide) (by simp); have OP5 := T4.own OP4 hA5 (by decide) (by decide) (by simp); have RB5 := RB4.aw hA5 (by simp); have T5' : TR w5 w5 w1.heap.size (w.heap.size + 2) fv pv (.slice none 0 0) s a3 n3 := ⟨T5.rd, T5.sc, Aw.refl _ _⟩))
    have TX := T5; have OFX := OF5; have OPX := OP5; have RBX := RB5
    obtain ⟨⟨cX0, cX1, cX2, cX3⟩, _⟩ := TX.facts
    obtain ⟨fA, fC, rfl, hrF⟩ := own_rws (f := strCell) (fun _ => rfl) OFX rfl
    obtain ⟨pA, pC, rfl, hrP⟩ := own_rws (f := strCell) (fun _ => rfl) OPX rfl
    skip
    have hok : RuleOk ⟨F, P, []⟩ := ⟨⟨hFo.2, fun z hz => Nat.le_trans (hFo.1 z hz) (by decide)⟩, ⟨by simp only; omega, fun z hz => Nat.le_trans (hPo.1 z hz) (by decide)⟩, ⟨by simp, by simp⟩⟩
    cases n3
    case true =>
      simp only [Bool.true_or, if_true] at hcT
      subst hcT
      clear hok
      go_wp2_with (first
        | (go_at_call 36; (with_reducible refine (kS _ _ TX.sc).mono ?_); rintro e w7 ⟨rfl, rfl⟩)
        | (go_at_call 38; (with_reducible refine (kA _ _ TX.sc).mono ?_); rintro e w8 ⟨rfl, rfl⟩; have RBY := RBX)
        | (go_at_call 20; (with_reducible refine (k11 _ _).mono ?_); rintro e w9 ⟨rfl, hb9⟩; have RB9 := RBY.bel hb9; obtain ⟨⟨y0, y1, y2⟩, ⟨x0, x1, x2, x3⟩, ⟨m0, m1, m2⟩, ⟨m3, m4, m5, m6⟩⟩ := RB9.facts))
      refine bodyPost_ret (v := .tuple #[.agg #[.slice none 0 0, .slice none 0 0, .slice none 0 0], .agg #[.int .i64 11, .int .i64 (fltO 11 s (a3 : Nat)), .int .i64 (fltL 11 s (a3 : Nat)), .int .i64 (fltC 11 s (a3 : Nat))]]) (by simp [results, Tryz.results15, go_sem, y0, y1, y2, x0, x1, x2, x3]) rfl ⟨rfl, (RB9.out _ _ _ _ _ _ _).1⟩
    case false =>
      rw [Bool.false_or] at hcT
      by_cases hend : a3 = s.size
      case neg =>
        have hq2 : (a3 == s.size) = false := by rw [beq_eq_false_iff_ne]; exact hend
        rw [if_pos (by simpa using hend)] at hcT
        subst hcT
        clear hok
        rw [hq2] at kN
        go_wp2_with (first
          | (go_at_call 36; (with_reducible refine (kS _ _ TX.sc).mono ?_); rintro e w7 ⟨rfl, rfl⟩)
          | (go_at_call 37; (with_reducible refine (kN _ _ TX.sc).mono ?_); rintro e w8 ⟨rfl, h8, hA8⟩; have TY := TX.scan hA8 h8 (by simp); have RBY := RBX.aw hA8 (by simp); have hb8 := hA8.none_bel; obtain ⟨⟨cY0, cY1, cY2, cY3⟩, _⟩ := TY.facts)
          | (go_at_call 38; (with_reducible refine (kA _ _ TY.sc).mono ?_); rintro e w10 ⟨rfl, rfl⟩)
          | (go_at_call 20; (with_reducible refine (k11 _ _).mono ?_); rintro e w9 ⟨rfl, hb9⟩; have RB9 := RBY.bel hb9; obtain ⟨⟨y0, y1, y2⟩, ⟨x0, x1, x2, x3⟩, ⟨m0, m1, m2⟩, ⟨m3, m4, m5, m6⟩⟩ := RB9.facts))
        refine bodyPost_ret (v := .tuple #[.agg #[.slice none 0 0, .slice none 0 0, .slice none 0 0], .agg #[.int .i64 11, .int .i64 (fltO 11 s (a3 : Nat)), .int .i64 (fltL 11 s (a3 : Nat)), .int .i64 (fltC 11 s (a3 : Nat))]]) (by simp [results, Tryz.results15, go_sem, y0, y1, y2, x0, x1, x2, x3]) rfl ⟨rfl, (RB9.out _ _ _ _ _ _ _).1⟩
      case pos =>
        have hq2 : (a3 == s.size) = true := by rw [beq_iff_eq]; exact hend
        rw [if_neg (by simpa using hend)] at hcT
        rw [hq2] at kN
        clear hend
        have kG := fun W h => tgood_any ⟨⟨F, P, []⟩, fA, fC, pA, pC, none, 0⟩ W h hok
        have kC := fun W h => cloned_any ⟨⟨F, P, []⟩, fA, fC, pA, pC, none, 0⟩ W h hok.f.1 hok.p.1 hok.e.1 (fun z hz => by simp at hz)
        have hra : RuleAt w5 w5.heap.size ⟨⟨F, P, []⟩, fA, fC, pA, pC, none, 0⟩ := ⟨hrF, hrP, IsRows.nil_⟩
        clear hok
        cases hgood : goodR ⟨F, P, []⟩
        case false =>
          rw [hgood, if_neg (by simp)] at hcT
          subst hcT
          rw [hgood] at kG
          simp only [List.length_nil] at kG
          clear kC
          go_wp2_with (first
            | (go_at_call 36; (with_reducible refine (kS _ _ TX.sc).mono ?_); rintro e w7 ⟨rfl, rfl⟩)
            | (go_at_call 37; (with_reducible refine (kN _ _ TX.sc).mono ?_); rintro e w8 ⟨rfl, h8, hA8⟩; have TY := TX.scan hA8 h8 (by simp); have RBY := RBX.aw hA8 (by simp); have hb8 := hA8.none_bel; obtain ⟨⟨cY0, cY1, cY2, cY3⟩, _⟩ := TY.facts)
            | (go_at_call 17; (with_reducible refine (kG _ (hra.bel hb8)).mono ?_); rintro e w10 ⟨rfl, hb10⟩; have RB8 := RBY.bel hb10; have TZ : Blk w10 w1.heap.size 69 #[.pointer (some ⟨w.heap.size + 2, 0, none⟩), .slice fA F.length fC, .slice pA P.length pC, .slice none 0 0] := TY.rd.below hb10 (Blk.lt TY.rd); have g1 := (Blk.cell TZ 1).trans rfl; have g2 := (Blk.cell TZ 2).trans rfl; have g3 := (Blk.cell TZ 3).trans rfl)
            | (go_at_call 20; (with_reducible refine (k19 _).mono ?_); rintro e w9 ⟨rfl, hb9⟩; have RB9 := RB8.bel hb9; obtain ⟨⟨y0, y1, y2⟩, ⟨x0, x1, x2, x3⟩, ⟨m0, m1, m2⟩, ⟨m3, m4, m5, m6⟩⟩ := RB9.facts))
          refine bodyPost_ret (v := .tuple #[.agg #[.slice none 0 0, .slice none 0 0, .slice none 0 0], .agg #[.int .i64 19, .int .i64 (fltO 19 s 0), .int .i64 (fltL 19 s 0), .int .i64 (fltC 19 s 0)]]) (by simp [results, Tryz.results15, go_sem, y0, y1, y2, x0, x1, x2, x3]) rfl ⟨rfl, (RB9.out _ _ _ _ _ _ _).1⟩
        case true =>
          rw [hgood, if_pos rfl] at hcT
          subst hcT
          rw [hgood] at kG
          simp only [List.length_nil] at kG kC
          go_wp2_with (first
            | (go_at_call 36; (with_reducible refine (kS _ _ TX.sc).mono ?_); rintro e w7 ⟨rfl, rfl⟩)
            | (go_at_call 37; (with_reducible refine (kN _ _ TX.sc).mono ?_); rintro e w8 ⟨rfl, h8, hA8⟩; have TY := TX.scan hA8 h8 (by simp); have RBY := RBX.aw hA8 (by simp); have hb8 := hA8.none_bel; obtain ⟨⟨cY0, cY1, cY2, cY3⟩, _⟩ := TY.facts)
            | (go_at_call 17; (with_reducible refine (kG _ (hra.bel hb8)).mono ?_); rintro e w10 ⟨rfl, hb10⟩; have RB8 := RBY.bel hb10; have TZ : Blk w10 w1.heap.size 69 #[.pointer (some ⟨w.heap.size + 2, 0, none⟩), .slice fA F.length fC, .slice pA P.length pC, .slice none 0 0] := TY.rd.below hb10 (Blk.lt TY.rd); have g1 := (Blk.cell TZ 1).trans rfl; have g2 := (Blk.cell TZ 2).trans rfl; have g3 := (Blk.cell TZ 3).trans rfl)
            | (go_at_call 39; (with_reducible refine (kC _ ((hra.bel hb8).bel hb10)).mono ?_); rintro e w9 ⟨⟨y, rfl, hy, hry, hab⟩, hb9⟩; have HY := Lib.hid hy; clear hy; have RB9 := RB8.bel hb9; obtain ⟨⟨y0, y1, y2⟩, ⟨x0, x1, x2, x3⟩, ⟨m0, m1, m2⟩, ⟨m3, m4, m5, m6⟩⟩ := RB9.facts))
          refine bodyPost_ret (v := .tuple #[.agg #[.slice y.fA y.rule.filter.length y.fC, .slice y.pA y.rule.parts.length y.pC, .slice y.eA y.rule.extra.length y.eC], .agg #[.int .i64 0, .int .i64 0, .int .i64 0, .int .i64 0]]) (by simp [results, Tryz.results15, go_sem, y0, y1, y2, x0, x1, x2, x3]) rfl ?_
          have ko := RB9.out (.slice y.fA y.rule.filter.length y.fC) (.slice y.pA y.rule.parts.length y.pC) (.slice y.eA y.rule.extra.length y.eC) (.int .i64 0) (.int .i64 0) (.int .i64 0) (.int .i64 0)
          have hml := RB8.lt
          exact ⟨⟨y, rfl, HY.out, (hry.off ko.2 (Nat.le_refl _) hab (by simp; omega)).more ko.2.size⟩, ko.1⟩
end Go.Proofs.YtodgfapgmmjpcaaGreatDoor
