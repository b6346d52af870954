/- The walk of polyglotlaw23's known. -/
import Derived.Test.YtodgfapgmmjpcaaGreatDoorTplI
namespace Go.Proofs.YtodgfapgmmjpcaaGreatDoor
set_option linter.unusedVariables false
set_option linter.unusedSimpArgs false
open Go.RowKit
theorem eqLab2 (a0 a1 b0 b1 : ByteArray) (w : World) : (binOp .eql 33 (.agg #[.string a0, .string a1]) (.agg #[.string b0, .string b1])).run Tryz.prog w = .ok (.bool (a0.toList == b0.toList && a1.toList == b1.toList)) w := by
  cases h0 : (a0.toList == b0.toList) <;> cases h1 : (a1.toList == b1.toList) <;> simp only [beq_iff_eq, beq_eq_false_iff_ne] at h0 h1 <;> simp [go_sem, h0, h1]
def rokB (r : MRule) : Bool := decide (r.filter.length ≤ 2097152) && r.filter.all (fun x => decide (x.size ≤ 1048576)) && (decide (r.parts.length ≤ 2097152) && r.parts.all (fun x => decide (x.size ≤ 1048576))) && (decide (r.extra.length ≤ 2097152) && r.extra.all (fun x => decide (x.1.size ≤ 1048576) && decide (x.2.size ≤ 1048576)))
theorem rok_of {r : MRule} (h : rokB r = true) : RuleOk r := by
  unfold rokB at h
  simp only [Bool.and_eq_true, decide_eq_true_eq, List.all_eq_true] at h
  obtain ⟨⟨⟨h1, h2⟩, h3, h4⟩, h5, h6⟩ := h
  exact ⟨⟨h1, fun x hx => Nat.le_trans (h2 x hx) (by decide)⟩, ⟨h3, fun x hx => Nat.le_trans (h4 x hx) (by decide)⟩, ⟨h5, fun x hx => ⟨Nat.le_trans (h6 x hx).1 (by decide), Nat.le_trans (h6 x hx).2 (by decide)⟩⟩⟩
def kR1 : MRule := ⟨[mkS [115, 101, 114, 118, 101, 114, 115], mkS [42]], [mkS [95], mkS [104, 111, 115, 116], mkS [109, 101, 116, 114, 105, 99, 42]], [(mkS [100, 99], mkS [120])]⟩
def kR2 : MRule := ⟨[], [mkS [104, 111, 115, 116], mkS [109, 101, 116, 114, 105, 99]], []⟩
theorem kok1 : RuleOk kR1 := rok_of (by decide +kernel)
theorem kok2 : RuleOk kR2 := rok_of (by decide +kernel)
theorem kc1 : compT (⟨#[115, 101, 114, 118, 101, 114, 115, 46, 42, 32, 95, 46, 104, 111, 115, 116, 46, 109, 101, 116, 114, 105, 99, 42, 32, 100, 99, 61, 120]⟩ : ByteArray).data.toList = .ok kR1 := by kernel_rfl
theorem kc2 : compT (⟨#[35, 32, 104, 111, 115, 116, 46, 109, 101, 116, 114, 105, 99]⟩ : ByteArray).data.toList = .ok kR2 := by kernel_rfl
theorem kc3 : compT (⟨#[35]⟩ : ByteArray).data.toList = .error (11, 1) := by kernel_rfl
theorem kc4 : compT (⟨#[97, 32, 109, 101, 116, 114, 105, 99, 46, 109, 101, 116, 114, 105, 99, 42, 46, 98]⟩ : ByteArray).data.toList = .error (11, 16) := by kernel_rfl
theorem kc5 : compT (⟨#[97, 46, 98, 32, 109, 101, 116, 114, 105, 99]⟩ : ByteArray).data.toList = .error (19, 0) := by kernel_rfl
theorem ka1 : applyT [kR1] ⟨#[115, 101, 114, 118, 101, 114, 115, 46, 97, 46, 99, 112, 117, 46, 108, 111, 97, 100]⟩ = (⟨#[99, 112, 117, 46, 108, 111, 97, 100]⟩, (sortL [(mkS [100, 99], mkS [120]), (mkS [104, 111, 115, 116], mkS [97])]).getD []) := by kernel_rfl
theorem ka2 : applyT [kR1] ⟨#[100, 105, 115, 107, 115, 46, 97, 46, 99, 112, 117]⟩ = (⟨#[100, 105, 115, 107, 115, 46, 97, 46, 99, 112, 117]⟩, []) := by kernel_rfl
theorem ks1 : (sortL [(mkS [100, 99], mkS [120]), (mkS [104, 111, 115, 116], mkS [97])]).getD [] = [(mkS [100, 99], mkS [120]), (mkS [104, 111, 115, 116], mkS [97])] := by
  rw [sortL_some (s := [(mkS [100, 99], mkS [120]), (mkS [104, 111, 115, 116], mkS [97])]) ⟨List.Perm.refl _, by simp [nmL, mkS]; decide⟩]
  rfl
theorem ki1 : invertT kR2 ⟨#[99, 112, 117]⟩ [(⟨#[104, 111, 115, 116]⟩, ⟨#[104]⟩), (⟨#[122]⟩, ⟨#[49]⟩)] = (⟨#[104, 46, 99, 112, 117]⟩, [(⟨#[122]⟩, ⟨#[49]⟩)], true) := by kernel_rfl
theorem ki2 : invertT kR1 ⟨#[99, 112, 117]⟩ [] = (mkS [], [], false) := by kernel_rfl
theorem CompE.ok' {s : ByteArray} {w' : World} {R : MRule} {e : Ending} (h : CompE s w' (.ok R) e) : ∃ fA fC pA pC eA eC, e = .returned (.tuple #[.agg #[.slice fA R.filter.length fC, .slice pA R.parts.length pC, .slice eA R.extra.length eC], .agg #[.int .i64 0, .int .i64 0, .int .i64 0, .int .i64 0]]) ∧ RuleAt w' w'.heap.size ⟨R, fA, fC, pA, pC, eA, eC⟩ := by
  obtain ⟨⟨R', fA, fC, pA, pC, eA, eC⟩, h1, rfl, h3⟩ := h
  exact ⟨fA, fC, pA, pC, eA, eC, h1, h3⟩
/-- A rule alone in a row of the call's own. -/
theorem rule_row (x : VRule) (W : World) : IsRows ruleCell 3 (W.alloc (.cells #[.slice x.fA x.rule.filter.length x.fC, .slice x.pA x.rule.parts.length x.pC, .slice x.eA x.rule.extra.length x.eC] 25)) (W.alloc (.cells #[.slice x.fA x.rule.filter.length x.fC, .slice x.pA x.rule.parts.length x.pC, .slice x.eA x.rule.extra.length x.eC] 25)).heap.size (some ⟨W.heap.size, 0, none⟩) 1 [x] :=
  IsRows.made (f := ruleCell) (fun _ => rfl) W _ _ [x] rfl
theorem applyOne_any (x : VRule) (p : ByteArray) (m : Int) (w W : World) (hb : Below w.heap.size w W) (h : RuleAt W W.heap.size x) (ok : RuleOk x.rule) (hm : MxAt w m) (hs : p.size ≤ 1048576) :
    Calls Tryz.prog 11 #[.slice (some ⟨W.heap.size, 0, none⟩) 1 1, .string p] (W.alloc (.cells #[.slice x.fA x.rule.filter.length x.fC, .slice x.pA x.rule.parts.length x.pC, .slice x.eA x.rule.extra.length x.eC] 25)) fun e w' => ApplyE W w' (applyT [x.rule] p) e := by
  have hb2 : Below W.heap.size W (W.alloc (.cells #[.slice x.fA x.rule.filter.length x.fC, .slice x.pA x.rule.parts.length x.pC, .slice x.eA x.rule.extra.length x.eC] 25)) := (Below.refl _ _).alloc (Nat.le_refl _) _
  refine (apply_any (some ⟨W.heap.size, 0, none⟩) 1 1 [x] p m _ (rule_row x W) (fun y hy => ?_) (by omega) (hm.below (bl_any hb hb2)) hs).mono ?_
  · rw [List.mem_singleton] at hy; subst hy; exact ⟨h.bel hb2, ok⟩
  · rintro e w' ⟨h1, h2⟩
    exact ⟨h1, bl_any hb2 h2⟩

set_option maxRecDepth 100000 in
set_option maxHeartbeats 12800000 in
theorem known23_any (m : Int) (w : World) (hm : MxAt w m) :
    Calls Tryz.prog 8 #[] w fun e w' => e = .returned (.bool true) ∧ Below w.heap.size w w' := by
  have kC1 : ∀ W, Calls Tryz.prog 15 #[.string ⟨#[115, 101, 114, 118, 101, 114, 115, 46, 42, 32, 95, 46, 104, 111, 115, 116, 46, 109, 101, 116, 114, 105, 99, 42, 32, 100, 99, 61, 120]⟩] W fun e w' => (∃ fA fC pA pC eA eC, e = .returned (.tuple #[.agg #[.slice fA 2 fC, .slice pA 3 pC, .slice eA 1 eC], .agg #[.int .i64 0, .int .i64 0, .int .i64 0, .int .i64 0]]) ∧ RuleAt w' w'.heap.size ⟨kR1, fA, fC, pA, pC, eA, eC⟩) ∧ Below W.heap.size W w' := fun W => by
    have h := compile_any ⟨#[115, 101, 114, 118, 101, 114, 115, 46, 42, 32, 95, 46, 104, 111, 115, 116, 46, 109, 101, 116, 114, 105, 99, 42, 32, 100, 99, 61, 120]⟩ W (by decide) (by decide +kernel)
    rw [kc1] at h
    exact h.mono fun e w' ⟨h1, h2⟩ => ⟨h1.ok', h2⟩
  have kC2 : ∀ W, Calls Tryz.prog 15 #[.string ⟨#[35, 32, 104, 111, 115, 116, 46, 109, 101, 116, 114, 105, 99]⟩] W fun e w' => (∃ fA fC pA pC eA eC, e = .returned (.tuple #[.agg #[.slice fA 0 fC, .slice pA 2 pC, .slice eA 0 eC], .agg #[.int .i64 0, .int .i64 0, .int .i64 0, .int .i64 0]]) ∧ RuleAt w' w'.heap.size ⟨kR2, fA, fC, pA, pC, eA, eC⟩) ∧ Below W.heap.size W w' := fun W => by
    have h := compile_any ⟨#[35, 32, 104, 111, 115, 116, 46, 109, 101, 116, 114, 105, 99]⟩ W (by decide) (by decide +kernel)
    rw [kc2] at h
    exact h.mono fun e w' ⟨h1, h2⟩ => ⟨h1.ok', h2⟩
  have kC3 : ∀ W, Calls Tryz.prog 15 #[.string ⟨#[35]⟩] W fun e w' => (∃ l k, e = .returned (.tuple #[.agg #[.slice none 0 0, .slice none 0 0, .slice none 0 0], .agg #[.int .i64 11, .int .i64 1, .int .i64 l, .int .i64 k]])) ∧ Below W.heap.size W w' := fun W => by
    have h := compile_any ⟨#[35]⟩ W (by decide) (by decide +kernel)
    rw [kc3] at h
    exact h.mono fun e w' ⟨h1, h2⟩ => ⟨⟨_, _, h1⟩, h2⟩
  have kC4 : ∀ W, Calls Tryz.prog 15 #[.string ⟨#[97, 32, 109, 101, 116, 114, 105, 99, 46, 109, 101, 116, 114, 105, 99, 42, 46, 98]⟩] W fun e w' => (∃ l k, e = .returned (.tuple #[.agg #[.slice none 0 0, .slice none 0 0, .slice none 0 0], .agg #[.int .i64 11, .int .i64 16, .int .i64 l, .int .i64 k]])) ∧ Below W.heap.size W w' := fun W => by
    have h := compile_any ⟨#[97, 32, 109, 101, 116, 114, 105, 99, 46, 109, 101, 116, 114, 105, 99, 42, 46, 98]⟩ W (by decide) (by decide +kernel)
    rw [kc4] at h
    exact h.mono fun e w' ⟨h1, h2⟩ => ⟨⟨_, _, h1⟩, h2⟩
  have kC5 : ∀ W, Calls Tryz.prog 15 #[.string ⟨#[97, 46, 98, 32, 109, 101, 116, 114, 105, 99]⟩] W fun e w' => (∃ l k, e = .returned (.tuple #[.agg #[.slice none 0 0, .slice none 0 0, .slice none 0 0], .agg #[.int .i64 19, .int .i64 0, .int .i64 l, .int .i64 k]])) ∧ Below W.heap.size W w' := fun W => by
    have h := compile_any ⟨#[97, 46, 98, 32, 109, 101, 116, 114, 105, 99]⟩ W (by decide) (by decide +kernel)
    rw [kc5] at h
    exact h.mono fun e w' ⟨h1, h2⟩ => ⟨⟨_, _, h1⟩, h2⟩
  have kA1 : ∀ fA fC pA pC eA eC W, Below w.heap.size w W → RuleAt W W.heap.size ⟨kR1, fA, fC, pA, pC, eA, eC⟩ → Calls Tryz.prog 11 #[.slice (some ⟨W.heap.size, 0, none⟩) 1 1, .string ⟨#[115, 101, 114, 118, 101, 114, 115, 46, 97, 46, 99, 112, 117, 46, 108, 111, 97, 100]⟩] (W.alloc (.cells #[.slice fA 2 fC, .slice pA 3 pC, .slice eA 1 eC] 25)) fun e w' => (∃ b o c, e = .returned (.tuple #[.string ⟨#[99, 112, 117, 46, 108, 111, 97, 100]⟩, .slice (some ⟨b, o, none⟩) 2 c]) ∧ b < w'.heap.size ∧ w'.cell? ⟨b, o, none⟩ = some (.string ⟨#[100, 99]⟩) ∧ w'.cell? ⟨b, o + 1, none⟩ = some (.string ⟨#[120]⟩) ∧ w'.cell? ⟨b, o + 3, none⟩ = some (.string ⟨#[97]⟩)) ∧ Below W.heap.size W w' := by
    intro fA fC pA pC eA eC W hb h
    have k := applyOne_any ⟨kR1, fA, fC, pA, pC, eA, eC⟩ ⟨#[115, 101, 114, 118, 101, 114, 115, 46, 97, 46, 99, 112, 117, 46, 108, 111, 97, 100]⟩ m w W hb h kok1 hm (by decide)
    rw [ka1, ks1] at k
    refine k.mono ?_
    rintro e w' ⟨⟨A, n, c, rfl, hr⟩, hb2⟩
    obtain rfl : n = 2 := hr.1.symm
    obtain ⟨b, o, rfl, hlt, hc⟩ := hr.2 (by omega)
    exact ⟨⟨b, o, c, rfl, hlt, by have := hc 0 _ 0 _ rfl rfl; exact this, by have := hc 0 _ 1 _ rfl rfl; exact this, by have := hc 1 _ 1 _ rfl rfl; exact this⟩, hb2⟩
  have kA2 : ∀ fA fC pA pC eA eC W, Below w.heap.size w W → RuleAt W W.heap.size ⟨kR1, fA, fC, pA, pC, eA, eC⟩ → Calls Tryz.prog 11 #[.slice (some ⟨W.heap.size, 0, none⟩) 1 1, .string ⟨#[100, 105, 115, 107, 115, 46, 97, 46, 99, 112, 117]⟩] (W.alloc (.cells #[.slice fA 2 fC, .slice pA 3 pC, .slice eA 1 eC] 25)) fun e w' => (∃ A c, e = .returned (.tuple #[.string ⟨#[100, 105, 115, 107, 115, 46, 97, 46, 99, 112, 117]⟩, .slice A 0 c])) ∧ Below W.heap.size W w' := by
    intro fA fC pA pC eA eC W hb h
    have k := applyOne_any ⟨kR1, fA, fC, pA, pC, eA, eC⟩ ⟨#[100, 105, 115, 107, 115, 46, 97, 46, 99, 112, 117]⟩ m w W hb h kok1 hm (by decide)
    rw [ka2] at k
    refine k.mono ?_
    rintro e w' ⟨⟨A, n, c, rfl, hr⟩, hb2⟩
    obtain rfl : n = 0 := hr.1.symm
    exact ⟨⟨A, c, rfl⟩, hb2⟩
  have kI1 : ∀ fA fC pA pC eA eC W, Below w.heap.size w W → RuleAt W W.heap.size ⟨kR2, fA, fC, pA, pC, eA, eC⟩ → Calls Tryz.prog 12 #[.agg #[.slice fA 0 fC, .slice pA 2 pC, .slice eA 0 eC], .string ⟨#[99, 112, 117]⟩, .slice (some ⟨W.heap.size, 0, none⟩) 2 2] (W.alloc (.cells #[.string ⟨#[104, 111, 115, 116]⟩, .string ⟨#[104]⟩, .string ⟨#[122]⟩, .string ⟨#[49]⟩] 33)) fun e w' => (∃ A c, e = .returned (.tuple #[.string ⟨#[104, 46, 99, 112, 117]⟩, .slice A 1 c, .bool true])) ∧ Below W.heap.size W w' := by
    intro fA fC pA pC eA eC W hb h
    have hb2 : Below W.heap.size W (W.alloc (.cells #[.string ⟨#[104, 111, 115, 116]⟩, .string ⟨#[104]⟩, .string ⟨#[122]⟩, .string ⟨#[49]⟩] 33)) := (Below.refl _ _).alloc (Nat.le_refl _) _
    have k := invert_any ⟨kR2, fA, fC, pA, pC, eA, eC⟩ ⟨#[99, 112, 117]⟩ (some ⟨W.heap.size, 0, none⟩) 2 2 [(⟨#[104, 111, 115, 116]⟩, ⟨#[104]⟩), (⟨#[122]⟩, ⟨#[49]⟩)] m _ (h.bel hb2) kok2 (hm.below (bl_any hb hb2)) (by decide) (IsRows.made (f := labCell) (fun _ => rfl) W _ _ [(⟨#[104, 111, 115, 116]⟩, ⟨#[104]⟩), (⟨#[122]⟩, ⟨#[49]⟩)] rfl) (by omega) (by decide)
    rw [ki1] at k
    refine k.mono ?_
    rintro e w' ⟨⟨A, n, c, rfl, hr⟩, hb3⟩
    obtain rfl : n = 1 := hr.1.symm
    exact ⟨⟨A, c, rfl⟩, bl_any hb2 hb3⟩
  have kI2 : ∀ fA fC pA pC eA eC W, Below w.heap.size w W → RuleAt W W.heap.size ⟨kR1, fA, fC, pA, pC, eA, eC⟩ → Calls Tryz.prog 12 #[.agg #[.slice fA 2 fC, .slice pA 3 pC, .slice eA 1 eC], .string ⟨#[99, 112, 117]⟩, .slice none 0 0] W fun e w' => (∃ A n c, e = .returned (.tuple #[.string ⟨#[]⟩, .slice A n c, .bool false])) ∧ Below W.heap.size W w' := by
    intro fA fC pA pC eA eC W hb h
    have k := invert_any ⟨kR1, fA, fC, pA, pC, eA, eC⟩ ⟨#[99, 112, 117]⟩ none 0 0 [] m W h kok1 (hm.below hb) (by decide) IsRows.nil_ (by omega) (by simp)
    rw [ki2] at k
    refine k.mono ?_
    rintro e w' ⟨⟨A, n, c, rfl, hr⟩, hb3⟩
    exact ⟨⟨A, n, c, rfl⟩, hb3⟩
  have kS1 : ∀ W, Below w.heap.size w W → Calls Tryz.prog 13 #[.string ⟨#[97, 46, 98]⟩] W fun e w' => (∃ A c, e = .returned (.slice A 2 c)) ∧ Below W.heap.size W w' := fun W hb => (split_any ⟨#[97, 46, 98]⟩ m W (hm.below hb) (by decide)).mono fun e w' ⟨h1, _, h3⟩ => ⟨⟨_, _, h1⟩, h3⟩
  have kS2 : ∀ W, Below w.heap.size w W → Calls Tryz.prog 13 #[.string ⟨#[]⟩] W fun e w' => (∃ A c, e = .returned (.slice A 1 c)) ∧ Below W.heap.size W w' := fun W hb => (split_any ⟨#[]⟩ m W (hm.below hb) (by decide)).mono fun e w' ⟨h1, _, h3⟩ => ⟨⟨_, _, h1⟩, h3⟩
  have ed := fun a0 a1 b0 b1 w => eqLab2 a0 a1 b0 b1 w
  go_enter Tryz.func8, Tryz.ntmps8
  go_upto_region 4 with (go_at_call 15; (with_reducible refine (kC1 _).mono ?_); rintro en w1 ⟨⟨fA, fC, pA, pC, eA, eC, rfl, hx1⟩, hb1⟩)
  have z1 : Blk ((w1.alloc (.cells #[.slice fA 2 fC, .slice pA 3 pC, .slice eA 1 eC] 25)).alloc (.cells #[.int .i64 0, .int .i64 0, .int .i64 0, .int .i64 0] 43)) w1.heap.size 25 #[.slice fA 2 fC, .slice pA 3 pC, .slice eA 1 eC] := Blk.alloc (Blk.new w1 _ _) _
  have hW1 : Below w.heap.size w ((w1.alloc (.cells #[.slice fA 2 fC, .slice pA 3 pC, .slice eA 1 eC] 25)).alloc (.cells #[.int .i64 0, .int .i64 0, .int .i64 0, .int .i64 0] 43)) := bl_alloc (bl_alloc hb1 _) _
  have hx1' := hx1.bel (bl_alloc (bl_alloc (Below.refl w1.heap.size w1) (.cells #[.slice fA 2 fC, .slice pA 3 pC, .slice eA 1 eC] 25)) (.cells #[.int .i64 0, .int .i64 0, .int .i64 0, .int .i64 0] 43))
  generalize (w1.alloc (.cells #[.slice fA 2 fC, .slice pA 3 pC, .slice eA 1 eC] 25)).alloc (.cells #[.int .i64 0, .int .i64 0, .int .i64 0, .int .i64 0] 43) = W1 at *
  generalize w1.heap.size = r1 at *
  have p0 := (Blk.cell z1 0).trans rfl
  have p1 := (Blk.cell z1 1).trans rfl
  have p2 := (Blk.cell z1 2).trans rfl
  clear hb1 kC1
  go_upto_region 6 with (first
    | (go_at_call 11; (with_reducible refine (kA1 _ _ _ _ _ _ _ hW1 hx1').mono ?_); rintro en w2 ⟨⟨lb, lo, lc, rfl, hlb, hl0, hl1, hl3⟩, hb2⟩; have z2 := z1.below hb2 (Blk.lt z1); have hW2 := bl_any hW1 hb2; have hx2 := hx1'.bel hb2; have q0 := (Blk.cell z2 0).trans rfl; have q1 := (Blk.cell z2 1).trans rfl; have q2 := (Blk.cell z2 2).trans rfl)
    | (go_at_call 11; (with_reducible refine (kA2 _ _ _ _ _ _ _ hW2 hx2).mono ?_); rintro en w3 ⟨⟨A3, c3, rfl⟩, hb3⟩; have z3 := z2.below hb3 (Blk.lt z2); have hW3 := bl_any hW2 hb3; have hx3 := hx2.bel hb3))
  clear kA1 kA2 p0 p1 p2 q0 q1 q2 z1 z2 hx1' hx2
  go_upto_region 7 with (go_at_call 15; (with_reducible refine (kC2 _).mono ?_); rintro en w4 ⟨⟨fA4, fC4, pA4, pC4, eA4, eC4, rfl, hx4⟩, hb4⟩)
  have hB4 : Below w3.heap.size w3 ((w4.alloc (.cells #[.slice fA4 0 fC4, .slice pA4 2 pC4, .slice eA4 0 eC4] 25)).alloc (.cells #[.int .i64 0, .int .i64 0, .int .i64 0, .int .i64 0] 43)) := bl_any hb4 (bl_alloc (bl_alloc (Below.refl w4.heap.size w4) (.cells #[.slice fA4 0 fC4, .slice pA4 2 pC4, .slice eA4 0 eC4] 25)) (.cells #[.int .i64 0, .int .i64 0, .int .i64 0, .int .i64 0] 43))
  have z4 := z3.below hB4 (Blk.lt z3)
  have hW4 := bl_any hW3 hB4
  have hx1r := hx3.bel hB4
  have hx4' := hx4.bel (bl_alloc (bl_alloc (Below.refl w4.heap.size w4) (.cells #[.slice fA4 0 fC4, .slice pA4 2 pC4, .slice eA4 0 eC4] 25)) (.cells #[.int .i64 0, .int .i64 0, .int .i64 0, .int .i64 0] 43))
  have g4 : Blk ((w4.alloc (.cells #[.slice fA4 0 fC4, .slice pA4 2 pC4, .slice eA4 0 eC4] 25)).alloc (.cells #[.int .i64 0, .int .i64 0, .int .i64 0, .int .i64 0] 43)) (w4.heap.size + 1) 43 #[.int .i64 0, .int .i64 0, .int .i64 0, .int .i64 0] := by
    have := Blk.new (w4.alloc (.cells #[.slice fA4 0 fC4, .slice pA4 2 pC4, .slice eA4 0 eC4] 25)) 43 #[.int .i64 0, .int .i64 0, .int .i64 0, .int .i64 0]
    simpa using this
  have y4 : Blk ((w4.alloc (.cells #[.slice fA4 0 fC4, .slice pA4 2 pC4, .slice eA4 0 eC4] 25)).alloc (.cells #[.int .i64 0, .int .i64 0, .int .i64 0, .int .i64 0] 43)) w4.heap.size 25 #[.slice fA4 0 fC4, .slice pA4 2 pC4, .slice eA4 0 eC4] := Blk.alloc (Blk.new w4 _ _) _
  generalize (w4.alloc (.cells #[.slice fA4 0 fC4, .slice pA4 2 pC4, .slice eA4 0 eC4] 25)).alloc (.cells #[.int .i64 0, .int .i64 0, .int .i64 0, .int .i64 0] 43) = W4 at *
  generalize w4.heap.size = r4 at *
  have p0 := (Blk.cell y4 0).trans rfl
  have p1 := (Blk.cell y4 1).trans rfl
  have p2 := (Blk.cell y4 2).trans rfl
  clear kC2 hb4
  go_upto_region 9 with (first
    | (go_at_call 12; (with_reducible refine (kI1 _ _ _ _ _ _ _ hW4 hx4').mono ?_); rintro en w5 ⟨⟨A5, c5, rfl⟩, hb5⟩; have z5 := z4.below hb5 (Blk.lt z4); have hW5 := bl_any hW4 hb5; have hx5 := hx1r.bel hb5; have q0 := (Blk.cell z5 0).trans rfl; have q1 := (Blk.cell z5 1).trans rfl; have q2 := (Blk.cell z5 2).trans rfl)
    | (go_at_call 12; (with_reducible refine (kI2 _ _ _ _ _ _ _ hW5 hx5).mono ?_); rintro en w6 ⟨⟨A6, n6, c6, rfl⟩, hb6⟩; have hW6 := bl_any hW5 hb6))
  have g6 := (g4.below hb5 (Blk.lt g4)).below hb6 (Blk.lt (g4.below hb5 (Blk.lt g4)))
  have hl6 : Below w2.heap.size w2 w6 := bl_any (bl_any (bl_any hb3 hB4) hb5) hb6
  clear kI1 kI2 p0 p1 p2 q0 q1 q2 z3 z4 z5 hx1r hx3 hx4 hx4' hx5 g4 y4 hx1 hb5 hB4 hb3
  go_upto_region 10 with (go_at_call 15; (with_reducible refine (kC3 _).mono ?_); rintro en w7 ⟨⟨l7, k7, rfl⟩, hb7⟩)
  have hB7 : Below w6.heap.size w6 ((w7.alloc (.cells #[.slice none 0 0, .slice none 0 0, .slice none 0 0] 25)).alloc (.cells #[.int .i64 11, .int .i64 1, .int .i64 l7, .int .i64 k7] 43)) := bl_any hb7 (bl_alloc (bl_alloc (Below.refl w7.heap.size w7) (.cells #[.slice none 0 0, .slice none 0 0, .slice none 0 0] 25)) (.cells #[.int .i64 11, .int .i64 1, .int .i64 l7, .int .i64 k7] 43))
  have g7 := g6.below hB7 (Blk.lt g6)
  have h7 : Blk ((w7.alloc (.cells #[.slice none 0 0, .slice none 0 0, .slice none 0 0] 25)).alloc (.cells #[.int .i64 11, .int .i64 1, .int .i64 l7, .int .i64 k7] 43)) (w7.heap.size + 1) 43 #[.int .i64 11, .int .i64 1, .int .i64 l7, .int .i64 k7] := by
    have := Blk.new (w7.alloc (.cells #[.slice none 0 0, .slice none 0 0, .slice none 0 0] 25)) 43 #[.int .i64 11, .int .i64 1, .int .i64 l7, .int .i64 k7]
    simpa using this
  generalize (w7.alloc (.cells #[.slice none 0 0, .slice none 0 0, .slice none 0 0] 25)).alloc (.cells #[.int .i64 11, .int .i64 1, .int .i64 l7, .int .i64 k7] 43) = W7 at *
  generalize w7.heap.size = r7 at *
  go_upto_region 11 with (go_at_call 15; (with_reducible refine (kC4 _).mono ?_); rintro en w8 ⟨⟨l8, k8, rfl⟩, hb8⟩)
  have hB8 : Below W7.heap.size W7 ((w8.alloc (.cells #[.slice none 0 0, .slice none 0 0, .slice none 0 0] 25)).alloc (.cells #[.int .i64 11, .int .i64 16, .int .i64 l8, .int .i64 k8] 43)) := bl_any hb8 (bl_alloc (bl_alloc (Below.refl w8.heap.size w8) (.cells #[.slice none 0 0, .slice none 0 0, .slice none 0 0] 25)) (.cells #[.int .i64 11, .int .i64 16, .int .i64 l8, .int .i64 k8] 43))
  have g8 := g7.below hB8 (Blk.lt g7)
  have h8 := h7.below hB8 (Blk.lt h7)
  have i8 : Blk ((w8.alloc (.cells #[.slice none 0 0, .slice none 0 0, .slice none 0 0] 25)).alloc (.cells #[.int .i64 11, .int .i64 16, .int .i64 l8, .int .i64 k8] 43)) (w8.heap.size + 1) 43 #[.int .i64 11, .int .i64 16, .int .i64 l8, .int .i64 k8] := by
    have := Blk.new (w8.alloc (.cells #[.slice none 0 0, .slice none 0 0, .slice none 0 0] 25)) 43 #[.int .i64 11, .int .i64 16, .int .i64 l8, .int .i64 k8]
    simpa using this
  generalize (w8.alloc (.cells #[.slice none 0 0, .slice none 0 0, .slice none 0 0] 25)).alloc (.cells #[.int .i64 11, .int .i64 16, .int .i64 l8, .int .i64 k8] 43) = W8 at *
  generalize w8.heap.size = r8 at *
  have hl8 : Below w2.heap.size w2 W8 := bl_any (bl_any hl6 hB7) hB8
  have hW8 := bl_any (bl_any hW6 hB7) hB8
  go_wp2_with (first
    | (go_at_call 15; (with_reducible refine (kC5 _).mono ?_); rintro en w9 ⟨⟨l9, k9, rfl⟩, hb9⟩; have hB9 : Below W8.heap.size W8 ((w9.alloc (.cells #[.slice none 0 0, .slice none 0 0, .slice none 0 0] 25)).alloc (.cells #[.int .i64 19, .int .i64 0, .int .i64 l9, .int .i64 k9] 43)) := bl_any hb9 (bl_alloc (bl_alloc (Below.refl w9.heap.size w9) (.cells #[.slice none 0 0, .slice none 0 0, .slice none 0 0] 25)) (.cells #[.int .i64 19, .int .i64 0, .int .i64 l9, .int .i64 k9] 43)); have g9 := g8.below hB9 (Blk.lt g8); have h9 := h8.below hB9 (Blk.lt h8); have i9 := i8.below hB9 (Blk.lt i8); have hl9 := bl_any hl8 hB9; have hW9 := bl_any hW8 hB9; have m0 := (hl9.cell (p := ⟨lb, lo, none⟩) hlb).trans hl0; have m1 := (hl9.cell (p := ⟨lb, lo + 1, none⟩) hlb).trans hl1; have m3 := (hl9.cell (p := ⟨lb, lo + 3, none⟩) hlb).trans hl3; have n0 := (Blk.cell g9 0).trans rfl; have n1 := (Blk.cell h9 0).trans rfl; have n2 := (Blk.cell h9 1).trans rfl; have n3 := (Blk.cell i9 0).trans rfl; have n4 := (Blk.cell i9 1).trans rfl)
    | (go_at_call 13; (with_reducible refine (kS1 _ hW9).mono ?_); rintro en w10 ⟨⟨A10, c10, rfl⟩, hb10⟩; have hW10 := bl_any hW9 hb10)
    | (go_at_call 13; (with_reducible refine (kS2 _ hW10).mono ?_); rintro en w11 ⟨⟨A11, c11, rfl⟩, hb11⟩))
  go_ret
  exact ⟨rfl, bl_any hW10 hb11⟩
end Go.Proofs.YtodgfapgmmjpcaaGreatDoor
