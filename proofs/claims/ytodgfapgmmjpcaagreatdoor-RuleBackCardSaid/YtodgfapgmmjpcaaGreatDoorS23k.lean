/- The walk of RuleBack: a path that a rule took apart is put together again. -/
import Derived.Test.YtodgfapgmmjpcaaGreatDoorMgR
namespace Go.Proofs.YtodgfapgmmjpcaaGreatDoor
set_option linter.unusedVariables false
set_option linter.unusedSimpArgs false
open Go.RowKit
theorem lbOf_inks {ps ns : List ByteArray} (hl : ps.length ≤ ns.length) (h : ∀ (j : Nat) (x y : ByteArray), ps[j]? = some x → ns[j]? = some y → (isM x = true ∨ isT x = true ∨ nodeAll y.data.toList = true) ∧ y.data.toList ≠ []) : ∀ z ∈ lbOf ps ns, inksB dtNode (vlL z) = true := by
  intro z hz
  obtain ⟨i, h1, h2, h3⟩ := lbOf_at ps ns z hz
  have hi := (List.getElem?_eq_some_iff.1 h1).1
  have h4 : ns[i]? = some z.2 := by
    rw [List.getElem?_eq_getElem (by omega)]
    rw [List.getD_eq_getElem?_getD, List.getElem?_eq_getElem (by omega)] at h3
    exact congrArg some h3
  obtain ⟨h5, h6⟩ := h i z.1 z.2 h1 h4
  unfold isLb at h2
  simp only [Bool.and_eq_true, Bool.not_eq_true'] at h2
  rcases h5 with h5 | h5 | h5
  · rw [h2.1] at h5; cases h5
  · rw [h2.2.1] at h5; cases h5
  · unfold inksB vlL
    unfold nodeAll at h5
    rw [h5]
    simpa using h6
theorem pair_reads {w : World} {g : Nat} {t : TypeId} {u v : Value} (h : Blk w g t #[u, v]) : Reads w w.heap.size 2 (some ⟨g, 0, none⟩) 1 [u, v] := by
  refine ⟨rfl, fun _ => ⟨_, rfl, h.lt, fun j z hz => ?_⟩⟩
  have he : (⟨g, 0, none⟩ : Addr).add j = ⟨g, j, none⟩ := by unfold Addr.add; split <;> simp_all
  rw [he, h.cell j, ← hz]
  simp
/-- What Invert tells, once and with a label more. -/
structure BackI (r : MRule) (p : ByteArray) (xl : Lab) (I1 I2 : ByteArray × List Lab × Bool) : Prop where
  no : (∃ x ∈ r.parts, isK x = true) → I1.2.2 = false ∧ I2.2.2 = false
  yes : (∀ x ∈ r.parts, isK x = false) → (∀ z ∈ lbOf r.parts (nodesT p), inksB dtNode (vlL z) = true) → I1 = (p, [], true) ∧ I2 = (p, [xl], true)
theorem backI {r : MRule} {p : ByteArray} {xl : Lab} (hm : matchT r p = true) (hx : ∀ y ∈ (takeT r p).2, nmL y ≠ nmL xl) : BackI r p xl (invertT r (takeT r p).1 (takeT r p).2) (invertT r (takeT r p).1 ((takeT r p).2 ++ [xl])) :=
  ⟨fun h => by rw [back_none h, back_none h]; exact ⟨rfl, rfl⟩, fun h1 h2 => ⟨back_same hm h1 h2, back_more hm h1 h2 hx⟩⟩
set_option maxRecDepth 100000 in
set_option maxHeartbeats 12800000 in
theorem back23_any (x : VRule) (p mo : ByteArray) (m : Int) (w : World) (h0 : RuleHere w x) (hm : MxAt w m) :
    Calls Tryz.prog 3 #[.agg #[.slice x.fA x.rule.filter.length x.fC, .slice x.pA x.rule.parts.length x.pC, .slice x.eA x.rule.extra.length x.eC], .string p, .string mo] w fun e w' => e = .returned (.bool true) ∧ Below w.heap.size w w' := by
  have X0 : TX w (w.alloc (.cells #[.slice x.fA x.rule.filter.length x.fC, .slice x.pA x.rule.parts.length x.pC, .slice x.eA x.rule.extra.length x.eC] 25)) x.fA x.rule.filter.length x.fC x.pA x.rule.parts.length x.pC x.eA x.rule.extra.length x.eC := ⟨Blk.new w _ _, (Below.refl _ _).alloc (Nat.le_refl _) _⟩
  have kK := fun W (hb : Below w.heap.size w W) => known23_any m W (hm.below hb)
  have kF := fun W => fair_any (some ⟨W.heap.size, 0, none⟩) 1 1 _ [x] _ (rule_row x W) (by decide)
  cases hf : fairB ([x].map VRule.rule)
  · rw [hf] at kF
    clear hf
    go_enter Tryz.func3, Tryz.ntmps3
    go_wp2_with (first
      | (go_at_call 8; (with_reducible refine (kK _ X0.bl).mono ?_); rintro e w1 ⟨rfl, hb1⟩; have X1 := X0.call hb1; obtain ⟨c0, c1, c2⟩ := X1.fs)
      | (go_at_call 9; (with_reducible refine (kF _).mono ?_); rintro e w2 ⟨rfl, rfl⟩))
    go_ret
    exact ⟨rfl, bl_alloc X1.bl _⟩
  rw [hf] at kF
  obtain ⟨_, hlen⟩ := fair_facts hf
  have hlen := hlen x.rule (by simp)
  have hok : RuleOk x.rule := h0.i.ok (by omega) (by omega) (by omega)
  have hA := h0.a
  clear hf h0
  by_cases hp2 : p.size ≤ 200
  case neg =>
    have dp : decide ((200 : Int) < (p.size : Int)) = true := decide_eq_true (by omega)
    go_enter Tryz.func3, Tryz.ntmps3
    go_wp2_with (first
      | (go_at_call 8; (with_reducible refine (kK _ X0.bl).mono ?_); rintro e w1 ⟨rfl, hb1⟩; have X1 := X0.call hb1; obtain ⟨c0, c1, c2⟩ := X1.fs)
      | (go_at_call 9; (with_reducible refine (kF _).mono ?_); rintro e w2 ⟨rfl, rfl⟩))
    go_ret
    exact ⟨rfl, bl_alloc X1.bl _⟩
  have dp : decide ((200 : Int) < (p.size : Int)) = false := decide_eq_false (by omega)
  by_cases hm2 : mo.size ≤ 20
  case neg =>
    have dm : decide ((20 : Int) < (mo.size : Int)) = true := decide_eq_true (by omega)
    go_enter Tryz.func3, Tryz.ntmps3
    go_wp2_with (first
      | (go_at_call 8; (with_reducible refine (kK _ X0.bl).mono ?_); rintro e w1 ⟨rfl, hb1⟩; have X1 := X0.call hb1; obtain ⟨c0, c1, c2⟩ := X1.fs)
      | (go_at_call 9; (with_reducible refine (kF _).mono ?_); rintro e w2 ⟨rfl, rfl⟩))
    go_ret
    exact ⟨rfl, bl_alloc X1.bl _⟩
  have dm : decide ((20 : Int) < (mo.size : Int)) = false := decide_eq_false (by omega)
  have kM := fun W (hb : Below w.heap.size w W) => match_any x p m W (hA.bel hb) hok (hm.below hb) (by omega)
  cases hq : matchT x.rule p
  · rw [hq] at kM
    clear hq
    go_enter Tryz.func3, Tryz.ntmps3
    go_wp2_with (first
      | (go_at_call 8; (with_reducible refine (kK _ X0.bl).mono ?_); rintro e w1 ⟨rfl, hb1⟩; have X1 := X0.call hb1; obtain ⟨c0, c1, c2⟩ := X1.fs; have X2 := X1.alloc (.cells #[.slice x.fA x.rule.filter.length x.fC, .slice x.pA x.rule.parts.length x.pC, .slice x.eA x.rule.extra.length x.eC] 25))
      | (go_at_call 9; (with_reducible refine (kF _).mono ?_); rintro e w2 ⟨rfl, rfl⟩; obtain ⟨d0, d1, d2⟩ := X2.fs)
      | (go_at_call 10; (with_reducible refine (kM _ X2.bl).mono ?_); rintro e w3 ⟨rfl, hb3⟩))
    go_ret
    exact ⟨rfl, bl_any X2.bl hb3⟩
  rw [hq] at kM
  obtain ⟨xl, hxl⟩ : ∃ xl : Lab, xl = (⟨#[122, 122]⟩ ++ mo, ⟨#[49]⟩) := ⟨_, rfl⟩
  have hR1 := take_name_sz hq
  have hR2 := take_lab_sz hq (by omega)
  have hR3 := take_len (match_lens hq).1 p
  have hpn := (match_lens hq).2.1
  have hnl := nodesT_len p
  have hp12 := (good_lens (match_lens hq).1).2.2.1
  have HB : Hid ((∀ y ∈ (takeT x.rule p).2, nmL y ≠ nmL xl) → BackI x.rule p xl (invertT x.rule (takeT x.rule p).1 (takeT x.rule p).2) (invertT x.rule (takeT x.rule p).1 ((takeT x.rule p).2 ++ [xl]))) := Lib.hid (fun h => backI hq h)
  have eA : applyT ([x].map VRule.rule) p = takeT x.rule p := apply_yes (xs := []) hq
  have kA : ∀ W, Below w.heap.size w W → Calls Tryz.prog 11 #[.slice (some ⟨W.heap.size, 0, none⟩) 1 1, .string p] (W.alloc (.cells #[.slice x.fA x.rule.filter.length x.fC, .slice x.pA x.rule.parts.length x.pC, .slice x.eA x.rule.extra.length x.eC] 25)) fun e w' => ApplyE W w' (takeT x.rule p) e := fun W hb => by
    have := applyOne_any x p m w W hb (hA.bel hb) hok hm (by omega)
    rw [show applyT [x.rule] p = takeT x.rule p from eA] at this
    exact this
  have kI1 := fun W (hb : Below w.heap.size w W) A1 n1 c1 (hL : IsRows labCell 2 W W.heap.size A1 n1 (takeT x.rule p).2) => invert_any x (takeT x.rule p).1 A1 n1 c1 (takeT x.rule p).2 m W (hA.bel hb) hok (hm.below hb) (by omega) hL (by rw [← hL.1]; omega) hR2
  have hxl2 : xl.2.size ≤ 512 := by rw [hxl]; show (⟨#[49]⟩ : ByteArray).size ≤ 512; decide
  have kI2 := fun W (hb : Below w.heap.size w W) A1 n1 c1 (hL : IsRows labCell 2 W W.heap.size A1 n1 ((takeT x.rule p).2 ++ [xl])) => invert_any x (takeT x.rule p).1 A1 n1 c1 ((takeT x.rule p).2 ++ [xl]) m W (hA.bel hb) hok (hm.below hb) (by omega) hL (by rw [← hL.1, List.length_append, List.length_singleton]; omega) (fun z hz => by
    rcases List.mem_append.1 hz with h | h
    · exact hR2 z h
    · rw [List.mem_singleton] at h; rw [h]; exact hxl2)
  have kSp := fun W (hb : Below w.heap.size w W) => split_any p m W (hm.below hb) (by omega)
  subst hxl
  clear hxl2 hR2 eA hR1
  generalize invertT x.rule (takeT x.rule p).1 (takeT x.rule p).2 = I1 at *
  generalize invertT x.rule (takeT x.rule p).1 ((takeT x.rule p).2 ++ [(⟨#[122, 122]⟩ ++ mo, ⟨#[49]⟩)]) = I2 at *
  generalize takeT x.rule p = R at *
  obtain ⟨rn, rl⟩ := R
  obtain ⟨s1, l1, b1⟩ := I1
  obtain ⟨s2, l2, b2⟩ := I2
  obtain ⟨ns, hns⟩ : ∃ ns, nodesT p = ns := ⟨_, rfl⟩
  rw [hns] at kSp hpn hnl
  have HNS := Lib.hid hns
  clear hns hq
  obtain ⟨⟨fs, ps, es⟩, fA, fC, pA, pC, eA, eC⟩ := x
  simp only at *
  have hz2 : ¬ 9223372036854775807 < 2 + mo.size := by omega
  go_enter Tryz.func3, Tryz.ntmps3
  go_upto_region 6 with (first
    | (go_at_call 8; (with_reducible refine (kK _ X0.bl).mono ?_); rintro e w1 ⟨rfl, hb1⟩; have X1 := X0.call hb1; obtain ⟨c0, c1, c2⟩ := X1.fs; have X2 := X1.alloc (.cells #[.slice fA fs.length fC, .slice pA ps.length pC, .slice eA es.length eC] 25))
    | (go_at_call 9; (with_reducible refine (kF _).mono ?_); rintro e w2 ⟨rfl, rfl⟩; obtain ⟨d0, d1, d2⟩ := X2.fs)
    | (go_at_call 10; (with_reducible refine (kM _ X2.bl).mono ?_); rintro e w3 ⟨rfl, hb3⟩; have X3 := X2.call hb3; obtain ⟨e0, e1, e2⟩ := X3.fs)
    | (go_at_call 11; (with_reducible refine (kA _ X3.bl).mono ?_); rintro e w4 ⟨⟨A4, n4, c4, rfl, hr4⟩, hb4⟩; have X4 := X3.call hb4))
  have hn4 : n4 ≤ 20 := by rw [← hr4.1]; exact hR3
  clear kK kF kM kA hb1 hb3 hb4 c0 c1 c2 d0 d1 d2 e0 e1 e2 X0 X1 X2 X3 hR3
  go_wp2_with fail
  have q5 := Blk.new w4 33 #[.string (⟨#[122, 122]⟩ ++ mo), .string ⟨#[49]⟩]
  have X5 := X4.alloc (.cells #[.string (⟨#[122, 122]⟩ ++ mo), .string ⟨#[49]⟩] 33)
  have hr5 := hr4.bel (bl_alloc (Below.refl w4.heap.size w4) (.cells #[.string (⟨#[122, 122]⟩ ++ mo), .string ⟨#[49]⟩] 33))
  generalize w4.heap.size = g5 at *
  generalize w4.alloc (.cells #[.string (⟨#[122, 122]⟩ ++ mo), .string ⟨#[49]⟩] 33) = W5 at *
  generalize (⟨#[122, 122]⟩ ++ mo : ByteArray) = zn at *
  clear X4 hr4
  have z0 := (Blk.cell q5 0).trans rfl
  have hg5 := Blk.lt q5
  go_loopw [10] (fun i wr => Below W5.heap.size W5 wr ∧ ∃ k : Nat, k ≤ n4 ∧ i = .int .i64 k ∧ Hid (∀ (j : Nat) (y : Lab), j < k → rl[j]? = some y → nmL y ≠ byL zn)) (fun i _ => n4 - (intOf i).toNat)
  case atStart => exact ⟨Below.refl _ _, 0, by omega, rfl, Lib.hid (fun j y h => by omega)⟩
  case round =>
    obtain ⟨hbw, k, hk, rfl, HG⟩ := hrel
    have y0 := (hbw.cell (p := ⟨g5, 0, none⟩) hg5).trans z0
    by_cases hlt : k < n4
    · have hdk : decide ((k : Int) < (n4 : Int)) = true := decide_eq_true (by omega)
      have hk0 : (0 : Int) ≤ k := by omega
      have hk1 : (k : Int) < (n4 : Int) := by omega
      obtain ⟨b, off, xn, xv, rfl, hgb, hx, e0, e1⟩ := lab_at (hr5.bel hbw) hlt
      cases hc : (xn.toList == zn.toList)
      · have HF : Hid (∀ (j : Nat) (y : Lab), j < k + 1 → rl[j]? = some y → nmL y ≠ byL zn) := Lib.hid (fun j y hj hy => by
          by_cases e : j = k
          · subst e; rw [hx] at hy; injection hy with hy; rw [← hy]
            have := beq_eq_false_iff_ne.1 hc
            rw [ByteArray.toList_eq, ByteArray.toList_eq] at this
            exact this
          · exact HG.out j y (by omega) hy)
        clear HG hx e1
        go_wp2_with fail
        go_quiet (fail)
        go_wp2_with fail
        exact ⟨⟨bl_drewN hbw _, k + 1, by omega, rfl, HF⟩, by (simp only [intOf]; omega)⟩
      · clear HG hx e1
        go_wp2_with fail
        go_quiet (fail)
        go_wp2_with fail
        go_ret
        exact ⟨rfl, bl_drewN (bl_any X5.bl hbw) _⟩
    · have hdk : decide ((k : Int) < (n4 : Int)) = false := decide_eq_false (by omega)
      have hBI := HB.out (fun y hy => by
        obtain ⟨i, hi, rfl⟩ := List.getElem_of_mem hy
        exact HG.out i _ (by rw [hr5.1] at hi; omega) (List.getElem?_eq_getElem hi))
      have HBI := Lib.hid hBI
      clear HG HB hBI z0
      have X6 := X5.call hbw
      have q6 := blk_call q5 hbw
      have hr6 := hr5.bel hbw
      clear X5 q5 hr5
      obtain ⟨c0, c1, c2⟩ := X6.fs
      go_upto_region 13 with (go_at_call 12; (with_reducible refine (kI1 _ X6.bl _ _ _ hr6).mono ?_); rintro e w7 ⟨⟨A7, n7, c7, rfl, hr7⟩, hb7⟩)
      have X7 := X6.call hb7
      have q7 := blk_call q6 hb7
      have hr8 := hr6.bel hb7
      have hB7 := X7.bl
      clear X6 q6 hr6 hb7 c0 c1 c2
      obtain ⟨f0, f1, f2⟩ := X7.fs
      have f3 := (Blk.cell q7 0).trans rfl
      have f4 := (Blk.cell q7 1).trans rfl
      have hg7 := Blk.lt q7
      have hw7 := Blk.lt X7.r
      have mkS2 : ∀ w', Below w7.heap.size w7 w' → (w'.cell? ⟨w.heap.size, 0, none⟩ = some (.slice fA fs.length fC) ∧ w'.cell? ⟨w.heap.size, 1, none⟩ = some (.slice pA ps.length pC) ∧ w'.cell? ⟨w.heap.size, 2, none⟩ = some (.slice eA es.length eC) ∧ w'.cell? ⟨g5, 0, none⟩ = some (.string zn) ∧ w'.cell? ⟨g5, 1, none⟩ = some (.string ⟨#[49]⟩)) ∧ Below w7.heap.size w7 w' := fun w' h =>
        ⟨⟨(h.cell (p := ⟨w.heap.size, 0, none⟩) hw7).trans f0, (h.cell (p := ⟨w.heap.size, 1, none⟩) hw7).trans f1, (h.cell (p := ⟨w.heap.size, 2, none⟩) hw7).trans f2, (h.cell (p := ⟨g5, 0, none⟩) hg7).trans f3, (h.cell (p := ⟨g5, 1, none⟩) hg7).trans f4⟩, h⟩
      obtain ⟨i0, hi0, iz0, iz1, iz2⟩ := info_parts Tryz.infoLabel
      have hu : Tryz.prog.underlying 23 = some (.slice 33) := by kernel_rfl
      have hll := hr8.1
      have hW0 : Below w7.heap.size w7 w7 := Below.refl _ _
      clear f0 f1 f2 f3 f4
      go_region_held3 (fun w' => (w'.cell? ⟨w.heap.size, 0, none⟩ = some (.slice fA fs.length fC) ∧ w'.cell? ⟨w.heap.size, 1, none⟩ = some (.slice pA ps.length pC) ∧ w'.cell? ⟨w.heap.size, 2, none⟩ = some (.slice eA es.length eC) ∧ w'.cell? ⟨g5, 0, none⟩ = some (.string zn) ∧ w'.cell? ⟨g5, 1, none⟩ = some (.string ⟨#[49]⟩)) ∧ Below w7.heap.size w7 w') ((refine mkS2 _ ?_; repeat (first | (with_reducible assumption) | (with_reducible exact And.right (by with_reducible assumption)) | (with_reducible refine Below.drew ?_) | (with_reducible refine bl_drewN ?_ _) | (with_reducible refine bl_alloc ?_ _)))) (first
        | (obtain ⟨_, hcur⟩ := ‹(_ ∧ _) ∧ Below w7.heap.size w7 _›; refine step_append_any _ (by rfl) (.const (.slice none 0 0)) (.tmp 77) _ (by rfl) w7.heap.size 33 i0 _ 2 32 hu hi0 iz0 iz1 iz2 rfl (by omega) _ 0 [] (by rfl) (World.ownsRow_nil _ _ _ _) w7.heap.size _ n4 _ _ (by rfl) ((labs_reads hr8).below hcur) (labs_one _) (by first | (simp [maxLen]; done) | (simp [maxLen]; omega)) (by omega) hcur.size ?_; intro v2 w2' hown2 hg2 hat2; have hB2 : Below w7.heap.size w7 w2' := Below.grown hcur hg2 hcur.size (by simp [Value.ownBlock]); have hz2' := hB2.size; (try (have hN2 : Blk w2' w7.heap.size 33 #[.string zn, .string ⟨#[49]⟩] := Blk.grown (by exact Blk.new w7 33 #[.string zn, .string ⟨#[49]⟩]) hg2 (by simp [Value.ownBlock]))))
        | (obtain ⟨_, hcur⟩ := ‹(_ ∧ _) ∧ Below w7.heap.size w7 _›; refine step_append_any _ (by rfl) (.tmp 78) (.tmp 80) _ (by rfl) w7.heap.size 33 i0 _ 2 32 hu hi0 iz0 iz1 iz2 rfl (by omega) v2 (0 + n4) _ (by rfl) (by first | exact hown2 | exact hown2.alloc _) _ _ 1 _ [.string zn, .string ⟨#[49]⟩] (by rfl) (by first | exact pair_reads hN2 | exact pair_reads (Blk.new w2' _ _)) (by simp [Value.oneCell']) (by first | (simp [maxLen]; done) | (simp [maxLen]; omega)) (by omega) hcur.size ?_; intro v3 w3' hown3 hg3 hat3; have hB3 : Below w7.heap.size w7 w3' := Below.grown hcur hg3 hcur.size (fun j e => (hown2.lt _ e).1); rw [Nat.zero_add, List.nil_append] at hown3; obtain ⟨A3, cap3, rfl, hr3⟩ := own_rws (f := labCell) (l := rl ++ [(zn, ⟨#[49]⟩)]) (fun _ => rfl) (by simpa [labCell] using hown3) (by simp [hll]))
        | (go_at_call 12; (with_reducible refine (kI2 _ (bl_any hB7 hB3) _ _ _ hr3).mono ?_); rintro e w9 ⟨⟨A9, n9, c9, rfl, hr9⟩, hb9⟩; have hB9 := bl_any hB3 hb9))
      all_goals
        have X9 := X7.call hB9
        have q9 := blk_call q7 hB9
        have hP : IsRows strCell 1 w9 w9.heap.size pA ps.length ps := (hA.bel X9.bl).p
        have hr79 := hr7.bel hB9
        clear hown2 hg2 hat2 hB2 hown3 hg3 hat3 hr3 hb9 hB3 hB9 mkS2 hW0 X7 q7 hr8 hll hu
        obtain ⟨c0, c1, c2⟩ := X9.fs
        go_wp2_with fail
        go_loop [17] (fun i => ∃ k : Nat, k ≤ ps.length ∧ i = .int .i64 k ∧ Hid (∀ (j : Nat) (y : ByteArray), j < k → ps[j]? = some y → isK y = false)) (fun i => ps.length - (intOf i).toNat)
        case atStart => exact ⟨0, by omega, rfl, Lib.hid (fun j y h => by omega)⟩
        case round =>
          obtain ⟨k2, hk2, rfl, HG⟩ := hrel
          by_cases hlt2 : k2 < ps.length
          · have hdk2 : decide ((k2 : Int) < (ps.length : Int)) = true := decide_eq_true (by omega)
            have hk20 : (0 : Int) ≤ k2 := by omega
            have hk21 : (k2 : Int) < (ps.length : Int) := by omega
            obtain ⟨b, off, y, rfl, hgb, hx, e0⟩ := str_at hP hlt2
            have HK := Lib.hid (isK_toL y)
            cases hc : (y.toList == [95])
            · have HF : Hid (∀ (j : Nat) (y : ByteArray), j < k2 + 1 → ps[j]? = some y → isK y = false) := Lib.hid (fun j z hj hz => by
                by_cases e : j = k2
                · subst e; rw [hx] at hz; injection hz with hz; rw [← hz, HK.out]; exact hc
                · exact HG.out j z (by omega) hz)
              clear HG HK hx
              go_wp2_with fail
              exact ⟨⟨k2 + 1, by omega, rfl, HF⟩, by (simp only [intOf]; omega)⟩
            · obtain ⟨e1, e2⟩ := HBI.out.no ⟨y, List.mem_of_getElem? hx, by rw [HK.out]; exact hc⟩
              simp only at e1 e2
              subst e1; subst e2
              clear HG HK hx HBI
              go_wp2_with fail
              go_ret
              exact ⟨rfl, X9.bl⟩
          · have hdk2 : decide ((k2 : Int) < (ps.length : Int)) = false := decide_eq_false (by omega)
            have HNK : Hid (∀ x ∈ ps, isK x = false) := Lib.hid (fun x hx => by
              obtain ⟨i, hi, rfl⟩ := List.getElem_of_mem hx
              exact HG.out i _ (by omega) (List.getElem?_eq_getElem hi))
            clear HG
            go_wp2_with (go_at_call 13; (with_reducible refine (kSp _ X9.bl).mono ?_); rintro e w10 ⟨rfl, hr10, hb10⟩)
            have X10 := X9.call hb10
            have q10 := blk_call q9 hb10
            have hP10 := hP.bel hb10
            have hr9' := hr9.bel hb10
            clear c0 c1 c2 X9 q9 hP hr79 hr9
            obtain ⟨c0, c1, c2⟩ := X10.fs
            go_loop [19] (fun i => ∃ k : Nat, k ≤ ps.length ∧ i = .int .i64 k ∧ Hid (∀ (j : Nat) (y z : ByteArray), j < k → ps[j]? = some y → ns[j]? = some z → (isM y = true ∨ isT y = true ∨ nodeAll z.data.toList = true) ∧ z.data.toList ≠ [])) (fun i => ps.length - (intOf i).toNat)
            case atStart => exact ⟨0, by omega, rfl, Lib.hid (fun j y z h => by omega)⟩
            case round =>
              obtain ⟨k3, hk3, rfl, HG⟩ := hrel
              by_cases hlt3 : k3 < ps.length
              · have hdk3 : decide ((k3 : Int) < (ps.length : Int)) = true := decide_eq_true (by omega)
                have hdk4 : decide ((k3 : Int) < (ns.length : Int)) = true := decide_eq_true (by omega)
                have hk30 : (0 : Int) ≤ k3 := by omega
                have hk31 : (k3 : Int) < (ps.length : Int) := by omega
                have hk32 : (k3 : Int) < (ns.length : Int) := by omega
                obtain ⟨b, off, y, rfl, hgb, hx, e0⟩ := str_at hP10 hlt3
                obtain ⟨b', off', z, hAA, hgb', hz, e1⟩ := str_at hr10 (show k3 < ns.length by omega)
                injection hAA with hAA
                injection hAA with hA1 hA2
                subst hA1; subst hA2
                simp only [Nat.zero_add] at e1
                have hzs : z.size ≤ 9223372036854775807 := by
                  have h1 := List.mem_of_getElem? hz
                  rw [← HNS.out] at h1
                  have := nodesT_sz h1
                  omega
                have kBd := fun W => badD_any z W hzs
                have HM := Lib.hid (isM_toL y)
                have HT := Lib.hid (isT_toL y)
                have HZ := Lib.hid (ByteArray.toList_eq z)
                have HS : ((isM y = true ∨ isT y = true ∨ nodeAll z.data.toList = true) ∧ z.data.toList ≠ []) → Hid (∀ (j : Nat) (y z : ByteArray), j < k3 + 1 → ps[j]? = some y → ns[j]? = some z → (isM y = true ∨ isT y = true ∨ nodeAll z.data.toList = true) ∧ z.data.toList ≠ []) := fun h => Lib.hid (fun j y' z' hj hy' hz' => by
                  by_cases e : j = k3
                  · subst e
                    rw [hx] at hy'; injection hy' with hy'
                    rw [hz] at hz'; injection hz' with hz'
                    rw [← hy', ← hz']; exact h
                  · exact HG.out j y' z' (by omega) hy' hz')
                clear HG hx hz
                cases qE : (z.toList == [])
                · have qE2 : z.toList.isEmpty = false := by cases hh : z.toList <;> rw [hh] at qE <;> first | rfl | (simp at qE)
                  have hne : z.data.toList ≠ [] := by rw [← HZ.out]; exact beq_eq_false_iff_ne.1 qE
                  have qE3 : ¬ z.toList = [] := beq_eq_false_iff_ne.1 qE
                  cases qM : (y.toList == [109, 101, 116, 114, 105, 99])
                  · have qM2 : (y.toList != [109, 101, 116, 114, 105, 99]) = true := by rw [bne, qM]; rfl
                    cases qT : (y.toList == [109, 101, 116, 114, 105, 99, 42])
                    · have qT2 : (y.toList != [109, 101, 116, 114, 105, 99, 42]) = true := by rw [bne, qT]; rfl
                      cases qN : nodeAll z.data.toList
                      · rw [qN] at kBd
                        clear HS HM HT HZ hne qN
                        go_wp2_with (go_at_call 14; (with_reducible refine (kBd _).mono ?_); rintro e w11 ⟨⟨v, rfl, hv⟩, rfl⟩)
                        go_ret
                        exact ⟨rfl, X10.bl⟩
                      · have HF := HS ⟨.inr (.inr qN), hne⟩
                        rw [qN] at kBd
                        clear HS HM HT HZ hne qN
                        go_wp2_with (go_at_call 14; (with_reducible refine (kBd _).mono ?_); rintro e w11 ⟨⟨v, rfl, hv⟩, rfl⟩)
                        exact ⟨⟨k3 + 1, by omega, rfl, HF⟩, by (simp only [intOf]; omega)⟩
                    · have qT2 : (y.toList != [109, 101, 116, 114, 105, 99, 42]) = false := by rw [bne, qT]; rfl
                      have HF := HS ⟨.inr (.inl (by rw [HT.out]; exact qT)), hne⟩
                      clear HS HM HT HZ hne
                      go_wp2_with fail
                      exact ⟨⟨k3 + 1, by omega, rfl, HF⟩, by (simp only [intOf]; omega)⟩
                  · have qM2 : (y.toList != [109, 101, 116, 114, 105, 99]) = false := by rw [bne, qM]; rfl
                    have HF := HS ⟨.inl (by rw [HM.out]; exact qM), hne⟩
                    clear HS HM HT HZ hne
                    go_wp2_with fail
                    exact ⟨⟨k3 + 1, by omega, rfl, HF⟩, by (simp only [intOf]; omega)⟩
                · have qE3 : z.toList = [] := beq_iff_eq.1 qE
                  clear HS HZ
                  cases qM : (y.toList == [109, 101, 116, 114, 105, 99])
                  · have qM2 : (y.toList != [109, 101, 116, 114, 105, 99]) = true := by rw [bne, qM]; rfl
                    cases qT : (y.toList == [109, 101, 116, 114, 105, 99, 42])
                    · have qT2 : (y.toList != [109, 101, 116, 114, 105, 99, 42]) = true := by rw [bne, qT]; rfl
                      cases qN : nodeAll z.data.toList
                      all_goals
                        rw [qN] at kBd
                        clear HM HT qN
                        go_wp2_with (go_at_call 14; (with_reducible refine (kBd _).mono ?_); rintro e w11 ⟨⟨v, rfl, hv⟩, rfl⟩)
                        go_ret
                        exact ⟨rfl, X10.bl⟩
                    · have qT2 : (y.toList != [109, 101, 116, 114, 105, 99, 42]) = false := by rw [bne, qT]; rfl
                      clear HM HT
                      go_wp2_with fail
                      go_ret
                      exact ⟨rfl, X10.bl⟩
                  · have qM2 : (y.toList != [109, 101, 116, 114, 105, 99]) = false := by rw [bne, qM]; rfl
                    clear HM HT
                    go_wp2_with fail
                    go_ret
                    exact ⟨rfl, X10.bl⟩
              · have hdk3 : decide ((k3 : Int) < (ps.length : Int)) = false := decide_eq_false (by omega)
                obtain ⟨e1, e2⟩ := HBI.out.yes HNK.out (by
                  rw [HNS.out]
                  exact lbOf_inks hpn (fun j y z hy hz => HG.out j y z (by have : j < ps.length := (List.getElem?_eq_some_iff.1 hy).1; omega) hy hz))
                injection e1 with e3 e4
                injection e4 with e4 e5
                injection e2 with e6 e7
                injection e7 with e7 e8
                subst e3; subst e4; subst e5; subst e6; subst e7; subst e8
                clear HG HBI HNK
                obtain rfl : 0 = n7 := hr7.1
                obtain rfl : 1 = n9 := hr9'.1
                obtain ⟨b, off, xn, xv, rfl, hgb, hx, e0, e1⟩ := lab_at hr9' (show 0 < 1 by decide)
                injection hx with hx
                injection hx with hx1 hx2
                subst hx1; subst hx2
                simp only [Nat.zero_mul, Nat.add_zero] at e0 e1
                have ed := fun a0 a1 b0 b1 w => eqLab2 a0 a1 b0 b1 w
                have f0 := (Blk.cell q10 0).trans rfl
                have f1 := (Blk.cell q10 1).trans rfl
                go_wp2_with fail
                go_quiet (fail)
                go_wp2_with fail
                go_ret
                exact ⟨by first | rfl | exact ret_bool (by simp), bl_drewN X10.bl _⟩
end Go.Proofs.YtodgfapgmmjpcaaGreatDoor
