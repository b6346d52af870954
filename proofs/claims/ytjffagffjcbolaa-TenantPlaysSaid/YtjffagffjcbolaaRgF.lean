/- The walk of the reference's SameConfigs at configurations that are alike. -/
import Derived.Test.YtjffagffjcbolaaRgE
import Derived.Deep.CutRange
namespace Go.Proofs.Ytjffagffjcbolaa
set_option linter.unusedVariables false
set_option linter.unusedSimpArgs false
open Go.RowKit
theorem blk_two (w : World) (t1 t2 : TypeId) (c1 c2 : Array Value) : Blk ((w.alloc (.cells c1 t1)).alloc (.cells c2 t2)).drew (w.heap.size + 1) t2 c2 := by
  have h := Blk.new (w.alloc (.cells c1 t1)) t2 c2
  have hz : (w.alloc (.cells c1 t1)).heap.size = w.heap.size + 1 := by simp
  rw [hz] at h
  exact h.drew
set_option maxRecDepth 100000 in
set_option maxHeartbeats 12800000 in
theorem rsame_any (p b q s m u : Int) (xs ys : List VRule) (A A2 : Option Addr) (c c2 : Nat) (w : World) (h1 : CfgAt w w.heap.size ⟨p, b, q, s, m, u, A, c, xs⟩) (h2 : CfgAt w w.heap.size ⟨p, b, q, s, m, u, A2, c2, ys⟩) (hq : xs.map VRule.rule = ys.map VRule.rule) :
    Calls Try.prog 22 #[.agg #[.int .i64 p, .int .i64 b, .int .i64 q, .int .i64 s, .int .i64 m, .int .i64 u, .slice A xs.length c], .agg #[.int .i64 p, .int .i64 b, .int .i64 q, .int .i64 s, .int .i64 m, .int .i64 u, .slice A2 ys.length c2]] w fun e w' => e = .returned (.bool true) ∧ Below w.heap.size w w' := by
  have hlen : ys.length = xs.length := by have := congrArg List.length hq; rw [List.length_map, List.length_map] at this; exact this.symm
  have HQ := Lib.hid hq
  have hnl : xs.length ≤ 2097152 := h1.len
  have r1 : IsRows ruleC 3 w w.heap.size A xs.length xs := h1.rows
  have r2 : IsRows ruleC 3 w w.heap.size A2 ys.length ys := h2.rows
  have HE1 : Hid (∀ x ∈ xs, RuleAt w w.heap.size x ∧ RuleOk x.rule) := Lib.hid h1.each
  have HE2 : Hid (∀ x ∈ ys, RuleAt w w.heap.size x ∧ RuleOk x.rule) := Lib.hid h2.each
  clear hq h1 h2
  rw [hlen] at r2 ⊢
  have HN2 := Lib.hid hlen
  clear hlen
  generalize hn : xs.length = n at *
  have HN := Lib.hid hn
  clear hn
  have q1 := (Blk.new w 30 #[.int .i64 p, .int .i64 b, .int .i64 q, .int .i64 s, .int .i64 m, .int .i64 u, .slice A n c]).alloc (.cells #[.int .i64 p, .int .i64 b, .int .i64 q, .int .i64 s, .int .i64 m, .int .i64 u, .slice A2 n c2] 30)
  have q2 := Blk.new (w.alloc (.cells #[.int .i64 p, .int .i64 b, .int .i64 q, .int .i64 s, .int .i64 m, .int .i64 u, .slice A n c] 30)) 30 #[.int .i64 p, .int .i64 b, .int .i64 q, .int .i64 s, .int .i64 m, .int .i64 u, .slice A2 n c2]
  have hb0 : Below w.heap.size w ((w.alloc (.cells #[.int .i64 p, .int .i64 b, .int .i64 q, .int .i64 s, .int .i64 m, .int .i64 u, .slice A n c] 30)).alloc (.cells #[.int .i64 p, .int .i64 b, .int .i64 q, .int .i64 s, .int .i64 m, .int .i64 u, .slice A2 n c2] 30)) := bl_alloc (bl_alloc (Below.refl _ _) _) _
  have hz : (w.alloc (.cells #[.int .i64 p, .int .i64 b, .int .i64 q, .int .i64 s, .int .i64 m, .int .i64 u, .slice A n c] 30)).heap.size = w.heap.size + 1 := by simp
  rw [hz] at q2
  clear hz
  go_enter Try.func22, Try.ntmps22
  go_upto_region 1 with (fail)
  generalize (w.alloc (.cells #[.int .i64 p, .int .i64 b, .int .i64 q, .int .i64 s, .int .i64 m, .int .i64 u, .slice A n c] 30)).alloc (.cells #[.int .i64 p, .int .i64 b, .int .i64 q, .int .i64 s, .int .i64 m, .int .i64 u, .slice A2 n c2] 30) = W at *
  have c0 := (Blk.cell q1 0).trans rfl; have c1 := (Blk.cell q1 1).trans rfl; have c2' := (Blk.cell q1 2).trans rfl; have c3 := (Blk.cell q1 3).trans rfl; have c4 := (Blk.cell q1 4).trans rfl; have c5 := (Blk.cell q1 5).trans rfl; have c6 := (Blk.cell q1 6).trans rfl
  have d0 := (Blk.cell q2 0).trans rfl; have d1 := (Blk.cell q2 1).trans rfl; have d2' := (Blk.cell q2 2).trans rfl; have d3 := (Blk.cell q2 3).trans rfl; have d4 := (Blk.cell q2 4).trans rfl; have d5 := (Blk.cell q2 5).trans rfl; have d6 := (Blk.cell q2 6).trans rfl
  go_wp2_with fail
  clear c0 c1 c2' c3 c4 c5 c6 d0 d1 d2' d3 d4 d5 d6
  go_loopw [5] (fun i wr => Below W.heap.size W wr ∧ ∃ k : Nat, k ≤ n ∧ i = .int .i64 k) (fun i _ => n - (intOf i).toNat)
  case atStart => exact ⟨Below.refl _ _, 0, by omega, rfl⟩
  case round =>
    obtain ⟨hbw, k, hk, rfl⟩ := hrel
    have z1 := q1.below hbw (Blk.lt q1)
    have z2 := q2.below hbw (Blk.lt q2)
    have hB : Below w.heap.size w wr := bl_any hb0 hbw
    have c6 := (Blk.cell z1 6).trans rfl
    have d6 := (Blk.cell z2 6).trans rfl
    have l1 := Blk.lt z1
    have l2 := Blk.lt z2
    by_cases hlt : k < n
    · have hdk : decide ((k : Int) < (n : Int)) = true := decide_eq_true (by omega)
      have hk0 : (0 : Int) ≤ k := by omega
      have hk1 : (k : Int) < (n : Int) := by omega
      obtain ⟨bx, ox, rfl, hbx, hcx⟩ := (r1.bel hB).2 (by omega)
      obtain ⟨by_, oy, rfl, hby, hcy⟩ := (r2.bel hB).2 (by omega)
      obtain ⟨X, hX⟩ : ∃ X, xs[k]? = some X := ⟨_, List.getElem?_eq_getElem (by have := HN.out; omega)⟩
      obtain ⟨Y, hY⟩ : ∃ Y, ys[k]? = some Y := ⟨_, List.getElem?_eq_getElem (by have := HN.out; have := HN2.out; omega)⟩
      have hXY : X.rule = Y.rule := by
        have h1 : (xs.map VRule.rule)[k]? = some X.rule := by rw [List.getElem?_map, hX]; rfl
        have h2 : (ys.map VRule.rule)[k]? = some Y.rule := by rw [List.getElem?_map, hY]; rfl
        rw [HQ.out, h2] at h1
        injection h1 with h1
        exact h1.symm
      obtain ⟨hx1, hx2⟩ := HE1.out X (List.mem_of_getElem? hX)
      obtain ⟨hy1, hy2⟩ := HE2.out Y (List.mem_of_getElem? hY)
      have e0 : wr.cell? ⟨bx, ox + k * 3, none⟩ = some (.slice X.fA X.rule.filter.length X.fC) := hcx k X 0 _ hX rfl
      have e1 : wr.cell? ⟨bx, ox + k * 3 + 1, none⟩ = some (.slice X.pA X.rule.parts.length X.pC) := hcx k X 1 _ hX rfl
      have e2 : wr.cell? ⟨bx, ox + k * 3 + 2, none⟩ = some (.slice X.eA X.rule.extra.length X.eC) := hcx k X 2 _ hX rfl
      have f0 : wr.cell? ⟨by_, oy + k * 3, none⟩ = some (.slice Y.fA Y.rule.filter.length Y.fC) := hcy k Y 0 _ hY rfl
      have f1 : wr.cell? ⟨by_, oy + k * 3 + 1, none⟩ = some (.slice Y.pA Y.rule.parts.length Y.pC) := hcy k Y 1 _ hY rfl
      have f2 : wr.cell? ⟨by_, oy + k * 3 + 2, none⟩ = some (.slice Y.eA Y.rule.extra.length Y.eC) := hcy k Y 2 _ hY rfl
      clear hcx hcy hX hY
      obtain ⟨r, xf, xfc, xp, xpc, xe, xec⟩ := X
      obtain ⟨r', yf, yfc, yp, ypc, ye, yec⟩ := Y
      simp only at hXY
      subst hXY
      simp only at e0 e1 e2 f0 f1 f2
      have kF := fun W (hb : Below w.heap.size w W) => rtexts_same xf r.filter.length xfc yf yfc r.filter W (hx1.bel hb).f (hy1.bel hb).f hx2.f.1
      have kP := fun W (hb : Below w.heap.size w W) => rtexts_same xp r.parts.length xpc yp ypc r.parts W (hx1.bel hb).p (hy1.bel hb).p hx2.p.1
      have kE := fun W (hb : Below w.heap.size w W) => refSame_any xe r.extra.length xec r.extra ye r.extra.length yec r.extra W (hx1.bel hb).e (by have := hx2.e.1; simp at this ⊢; omega) (hy1.bel hb).e (by have := hx2.e.1; simp at this ⊢; omega)
      rw [(sameB_iff r.extra r.extra).2 rfl] at kE
      clear hx1 hx2 hy1 hy2
      generalize r.filter.length = nf at *
      generalize r.parts.length = np at *
      generalize r.extra.length = ne at *
      go_upto_region 6 with (fail)
      go_cut [6, 7] from 64 to 73 (fun v6 v7 wx => ∃ b6 b7 : Nat, v6 = .pointer (some ⟨b6, 0, none⟩) ∧ v7 = .pointer (some ⟨b7, 0, none⟩) ∧ Blk wx b6 63 #[.slice xf nf xfc, .slice xp np xpc, .slice xe ne xec] ∧ Blk wx b7 63 #[.slice yf nf yfc, .slice yp np ypc, .slice ye ne yec] ∧ Below wr.heap.size wr wx)
      case first =>
        go_region
        all_goals
          go_wp2_with fail
          go_meet
          first
            | exact ⟨_, _, rfl, rfl, (Blk.alloc (Blk.new wr _ _) _).drew, blk_two wr _ _ _ _, (bl_alloc (bl_alloc (Below.refl _ _) _) _).drew⟩
            | exact ⟨_, _, rfl, rfl, blk_two wr _ _ _ _, (Blk.alloc (Blk.new wr _ _) _).drew, (bl_alloc (bl_alloc (Below.refl _ _) _) _).drew⟩
      case rest =>
        obtain ⟨b6, b7, rfl, rfl, y6, y7, hbc⟩ := hcut
        have a0 := (Blk.cell y6 0).trans rfl
        have a1 := (Blk.cell y7 0).trans rfl
        have hB0 := bl_any hB hbc
        have hbw0 := bl_any hbw hbc
        go_wp2_with (first
          | (go_at_call 37; (with_reducible refine (kF _ hB0).mono ?_); rintro e w1 ⟨rfl, hb1⟩; have r1 := y6.below hb1 (Blk.lt y6); have r2 := y7.below hb1 (Blk.lt y7); have b0 := (Blk.cell r1 1).trans rfl; have b1 := (Blk.cell r2 1).trans rfl; have hB1 := bl_any hB0 hb1)
          | (go_at_call 37; (with_reducible refine (kP _ hB1).mono ?_); rintro e w2 ⟨rfl, hb2⟩; have s1 := r1.below hb2 (Blk.lt r1); have s2 := r2.below hb2 (Blk.lt r2); have d0 := (Blk.cell s1 2).trans rfl; have d1 := (Blk.cell s2 2).trans rfl; have hB2 := bl_any hB1 hb2)
          | (go_at_call 38; (with_reducible refine (kE _ hB2).mono ?_); rintro e w3 ⟨rfl, hb3⟩))
        exact ⟨⟨bl_any (bl_any (bl_any hbw0 hb1) hb2) hb3, k + 1, by omega, rfl⟩, by (simp only [intOf]; omega)⟩
    · have hdk : decide ((k : Int) < (n : Int)) = false := decide_eq_false (by omega)
      go_wp2_with fail
      go_ret
      exact ⟨rfl, hB⟩
end Go.Proofs.Ytjffagffjcbolaa
