/- The walk of the reference's Good. -/
import Derived.Test.YtjffagffjcbolaaRgB
namespace Go.Proofs.Ytjffagffjcbolaa
set_option linter.unusedVariables false
set_option linter.unusedSimpArgs false
open Go.RowKit
set_option maxRecDepth 100000 in
set_option maxHeartbeats 6400000 in
theorem rgood_any (x : VRule) (w : World) (h : RuleAt w w.heap.size x) (ok : RuleOk x.rule) :
    Calls Try.prog 36 #[.agg #[.slice x.fA x.rule.filter.length x.fC, .slice x.pA x.rule.parts.length x.pC, .slice x.eA x.rule.extra.length x.eC]] w fun e w' => e = .returned (.bool (goodR x.rule)) ∧ Below w.heap.size w w' := by
  have HB : Hid (goodR x.rule = (decide (x.rule.filter.length ≤ 12) && (decide (x.rule.filter.length ≤ x.rule.parts.length) && (!(x.rule.filter.any wrongF) && (partsB x.rule.parts && extraB x.rule.extra x.rule.parts))))) := Lib.hid rfl
  have kP := fun W (hb : Below w.heap.size w W) => rparts_any x.pA x.rule.parts.length x.pC x.rule.parts W (h.bel hb).p ok.p.1 ok.p.2
  have kE := fun W (hb : Below w.heap.size w W) => rextra_any x.rule.filter x.rule.parts x.rule.extra x.fA x.pA x.eA x.fC x.pC x.eC W (h.bel hb) ok
  have hf := h.f
  have HFS := Lib.hid ok.f.2
  have hfl := ok.f.1
  clear h ok
  generalize partsB x.rule.parts = P1 at *
  generalize extraB x.rule.extra x.rule.parts = E1 at *
  obtain ⟨⟨fs, ps, es⟩, fA, fC, pA, pC, eA, eC⟩ := x
  simp only at *
  generalize hfn : fs.length = fn at *
  generalize ps.length = pn at *
  generalize es.length = en at *
  have HFN := Lib.hid hfn
  clear hfn
  have hS : XS w (w.alloc (.cells #[.slice fA fn fC, .slice pA pn pC, .slice eA en eC] 63)) w.heap.size fA fn fC pA pn pC eA en eC := ⟨Blk.new w _ _, bl_alloc (Below.refl _ _) _⟩
  have d2 : decide ((pn : Int) < (fn : Int)) = decide (pn < fn) := decide_eq_decide.2 (by omega)
  go_enter Try.func36, Try.ntmps36
  go_upto_region 1 with (fail)
  generalize w.alloc (.cells #[.slice fA fn fC, .slice pA pn pC, .slice eA en eC] 63) = W at *
  generalize hg : w.heap.size = g at hS
  have c0 := (Blk.cell hS.b 0).trans rfl
  have c1 := (Blk.cell hS.b 1).trans rfl
  have c2 := (Blk.cell hS.b 2).trans rfl
  have hl := hS.l
  by_cases h1 : fn ≤ 12
  case neg =>
    have d1 : decide ((12 : Int) < (fn : Int)) = true := decide_eq_true (by omega)
    have d1n : decide (12 < fn) = true := decide_eq_true (by omega)
    rw [decide_eq_false h1] at HB
    clear kP kE
    go_wp2_with fail
    go_ret
    exact ⟨ret_bool (by rw [HB.out]; rfl), by first | exact hl | (rw [← hg]; exact hl)⟩
  have d1 : decide ((12 : Int) < (fn : Int)) = false := decide_eq_false (by omega)
  have d1n : decide (12 < fn) = false := decide_eq_false (by omega)
  rw [decide_eq_true h1, Bool.true_and] at HB
  by_cases h2 : fn ≤ pn
  case neg =>
    have e2 : decide (pn < fn) = true := decide_eq_true (by omega)
    rw [decide_eq_false h2] at HB
    rw [e2] at d2
    clear kP kE
    go_wp2_with fail
    go_ret
    exact ⟨ret_bool (by rw [HB.out]; rfl), by first | exact hl | (rw [← hg]; exact hl)⟩
  have e2 : decide (pn < fn) = false := decide_eq_false (by omega)
  rw [decide_eq_true h2, Bool.true_and] at HB
  rw [e2] at d2
  cases P1
  case false =>
    clear kE
    go_wp2_with (go_at_call 53; (with_reducible refine (kP _ hl).mono ?_); rintro e w2 ⟨rfl, hb2⟩)
    go_ret
    exact ⟨ret_bool (by rw [HB.out]; simp), by first | exact bl_any hl hb2 | (rw [← hg]; exact bl_any hl hb2)⟩
  cases E1
  case false =>
    go_wp2_with (first
      | (go_at_call 53; (with_reducible refine (kP _ hl).mono ?_); rintro e w2 ⟨rfl, hb2⟩; have hS2 := hS.bel hb2; have q0 := (Blk.cell hS2.b 0).trans rfl; have q1 := (Blk.cell hS2.b 1).trans rfl; have q2 := (Blk.cell hS2.b 2).trans rfl)
      | (go_at_call 54; (with_reducible refine (kE _ (bl_any hl hb2)).mono ?_); rintro e w3 ⟨rfl, hb3⟩))
    go_ret
    exact ⟨ret_bool (by rw [HB.out]; simp), by first | exact bl_any (bl_any hl hb2) hb3 | (rw [← hg]; exact bl_any (bl_any hl hb2) hb3)⟩
  have HB2 : Hid (goodR ⟨fs, ps, es⟩ = !(fs.any wrongF)) := Lib.hid (by rw [HB.out]; simp)
  clear HB
  go_wp2_with (first
      | (go_at_call 53; (with_reducible refine (kP _ hl).mono ?_); rintro e w2 ⟨rfl, hb2⟩; have hS2 := hS.bel hb2; have q0 := (Blk.cell hS2.b 0).trans rfl; have q1 := (Blk.cell hS2.b 1).trans rfl; have q2 := (Blk.cell hS2.b 2).trans rfl)
      | (go_at_call 54; (with_reducible refine (kE _ (bl_any hl hb2)).mono ?_); rintro e w3 ⟨rfl, hb3⟩))
  have hS3 := hS2.bel hb3
  clear kP kE c0 c1 c2 q0 q1 q2 hb2 hb3 hS2 hS
  go_loopw [3] (fun i wr => XS w wr g fA fn fC pA pn pC eA en eC ∧ ∃ k : Nat, k ≤ fn ∧ i = .int .i64 k ∧ Hid (∀ j x, j < k → fs[j]? = some x → wrongF x = false)) (fun i _ => fn - (intOf i).toNat)
  case atStart => exact ⟨hS3, 0, by omega, rfl, Lib.hid (fun j x h => by omega)⟩
  case round =>
    obtain ⟨hSr, k, hk, rfl, HG⟩ := hrel
    clear hS3
    have c0 := (Blk.cell hSr.b 0).trans rfl
    by_cases hlt : k < fn
    · have hdk : decide ((k : Int) < (fn : Int)) = true := decide_eq_true (by omega)
      have hk0 : (0 : Int) ≤ k := by omega
      have hk1 : (k : Int) < fn := by omega
      obtain ⟨b, off, x, rfl, hgb, hx, e0⟩ := str_at (hf.bel hSr.l) hlt
      have HX := Lib.hid hx
      have kW : ∀ W, Calls Try.prog 55 #[.string x] W fun e w' => e = .returned (.bool (textB x)) ∧ W = w' := fun W => (rword_any x W (HFS.out x (List.mem_of_getElem? hx))).mono fun _ _ ⟨h1, h2⟩ => ⟨h1, h2.symm⟩
      have HV : Hid (wrongF x = (!isE x && !textB x)) := Lib.hid rfl
      have HE : Hid (isE x = (x.toList == [42])) := Lib.hid (by unfold isE; rw [ByteArray.toList_eq])
      generalize textB x = qt at kW HV
      clear hx
      have hcs : ((x.toList == [42]) = true ∧ (x.toList != [42]) = false ∧ wrongF x = false) ∨ ((x.toList == [42]) = false ∧ (x.toList != [42]) = true ∧ qt = true ∧ wrongF x = false) ∨ ((x.toList == [42]) = false ∧ (x.toList != [42]) = true ∧ qt = false ∧ wrongF x = true) := by
        have h1 := HV.out
        have h2 := HE.out
        unfold bne
        cases hq : (x.toList == [42])
        · rw [hq] at h2
          rw [h2] at h1
          cases qt
          · exact .inr (.inr ⟨rfl, rfl, rfl, h1⟩)
          · exact .inr (.inl ⟨rfl, rfl, rfl, h1⟩)
        · rw [hq] at h2
          rw [h2] at h1
          exact .inl ⟨rfl, rfl, h1⟩
      clear HV HE
      have HN : wrongF x = false → Hid (∀ j x, j < k + 1 → fs[j]? = some x → wrongF x = false) := fun hq => Lib.hid (fun j y hj hy => by
        by_cases e : j = k
        · subst e; rw [HX.out] at hy; injection hy with hy; rw [← hy]; exact hq
        · exact HG.out j y (by omega) hy)
      rcases hcs with ⟨s1, s2, hv⟩ | ⟨s1, s2, rfl, hv⟩ | ⟨s1, s2, rfl, hv⟩
      rotate_right
      · have HF : Hid (goodR ⟨fs, ps, es⟩ = false) := Lib.hid (by rw [HB2.out, any_yes HX.out hv]; rfl)
        clear hv HG HN
        go_wp2_with (go_at_call 55; (with_reducible refine (kW _).mono ?_); rintro e w9 ⟨rfl, rfl⟩)
        go_ret
        exact ⟨ret_bool HF.out.symm, by first | exact hSr.l | (rw [← hg]; exact hSr.l)⟩
      all_goals
        have HF := HN hv
        clear hv HG HN
        go_wp2_with (go_at_call 55; (with_reducible refine (kW _).mono ?_); rintro e w9 ⟨rfl, rfl⟩)
        exact ⟨⟨hSr, k + 1, by omega, rfl, HF⟩, by (simp only [intOf]; omega)⟩
    · have hdk : decide ((k : Int) < (fn : Int)) = false := decide_eq_false (by omega)
      have HF : Hid (goodR ⟨fs, ps, es⟩ = true) := Lib.hid (by
        rw [HB2.out, any_no (fun j x hx => HG.out j x (by have := HFN.out; have := (List.getElem?_eq_some_iff.1 hx).1; omega) hx)]; rfl)
      clear HG
      go_wp2_with fail
      go_ret
      exact ⟨ret_bool HF.out.symm, by first | exact hSr.l | (rw [← hg]; exact hSr.l)⟩
end Go.Proofs.Ytjffagffjcbolaa
