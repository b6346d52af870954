/- Tenants: which configurations may be: the walks of tenant.Check and of what it asks. -/
import Derived.Test.YtjffagffjcbolaaTenA
import Derived.Deep.CutRange
namespace Go.Proofs.Ytjffagffjcbolaa
set_option linter.unusedVariables false
set_option linter.unusedSimpArgs false
open Go.RowKit
theorem IsRows.bel {α : Type} {f : α → List Value} {size : Nat} {w w' : World} {A : Option Addr} {n : Nat} {xs : List α} (h : IsRows f size w w.heap.size A n xs) (k : Below w.heap.size w w') : IsRows f size w' w'.heap.size A n xs := (h.below k).more k.size
def ruleC (x : VRule) : List Value := [.slice x.fA x.rule.filter.length x.fC, .slice x.pA x.rule.parts.length x.pC, .slice x.eA x.rule.extra.length x.eC]
def wrongR (x : VRule) : Bool := !goodR x.rule
theorem wrongClo_any (x : VRule) (w : World) (h : RuleAt w w.heap.size x) (ok : RuleOk x.rule) :
    Calls Try.prog 33 #[.agg #[.slice x.fA x.rule.filter.length x.fC, .slice x.pA x.rule.parts.length x.pC, .slice x.eA x.rule.extra.length x.eC]] w fun e w' => e = .returned (.bool (wrongR x)) ∧ Below w.heap.size w w' := by
  have hA := (Below.refl w.heap.size w).alloc (Nat.le_refl _) (.cells #[.slice x.fA x.rule.filter.length x.fC, .slice x.pA x.rule.parts.length x.pC, .slice x.eA x.rule.extra.length x.eC] 63)
  have hB := Blk.new w 63 #[.slice x.fA x.rule.filter.length x.fC, .slice x.pA x.rule.parts.length x.pC, .slice x.eA x.rule.extra.length x.eC]
  have c0 := (Blk.cell hB 0).trans rfl
  have c1 := (Blk.cell hB 1).trans rfl
  have c2 := (Blk.cell hB 2).trans rfl
  have kG := tgood_any x _ (h.bel hA) ok
  have HW : Hid (wrongR x = !goodR x.rule) := Lib.hid rfl
  generalize goodR x.rule = G at kG HW
  clear h
  go_enter Try.func33, Try.ntmps33
  go_wp2_with (go_at_call 34; (with_reducible refine kG.mono ?_); rintro e w1 ⟨rfl, hb1⟩)
  go_ret
  exact ⟨ret_bool (by rw [HW.out]), bl_any hA hb1⟩
set_option maxHeartbeats 1600000 in
theorem ridx_any (A : Option Addr) (n cap : Nat) (xs : List VRule) (w : World) (hl : IsRows ruleC 3 w w.heap.size A n xs) (hr : ∀ x ∈ xs, RuleAt w w.heap.size x ∧ RuleOk x.rule) (hn : n ≤ 2097152) :
    Calls Try.prog 52 #[.slice A n cap, .func (.func 33) #[] #[]] w fun e w' => (∃ r : Int, e = .returned (.int .i64 r) ∧ decide (0 ≤ r) = xs.any wrongR) ∧ Below w.heap.size w w' := by
  have hll := hl.1
  have HP := Lib.hid hr
  clear hr
  go_enter Try.func52, Try.ntmps52
  go_wp2_with fail
  go_loopw [8] (fun i wr => Below w.heap.size w wr ∧ ∃ k : Nat, k ≤ n ∧ i = .int .i64 k ∧ Hid (∀ j x, j < k → xs[j]? = some x → wrongR x = false)) (fun i _ => n - (intOf i).toNat)
  case atStart => exact ⟨Below.refl _ _, 0, by omega, rfl, Lib.hid (fun j x h => by omega)⟩
  case round =>
    obtain ⟨hbw, k, hk, rfl, HG⟩ := hrel
    by_cases hlt : k < n
    · have hdk : decide ((k : Int) < n) = true := decide_eq_true (by omega)
      have hk0 : (0 : Int) ≤ k := by omega
      have hk1 : (k : Int) < n := by omega
      obtain ⟨b, off, rfl, hb, hcs⟩ := (hl.bel hbw).2 (by omega)
      obtain ⟨X, hX⟩ : ∃ X, xs[k]? = some X := ⟨_, List.getElem?_eq_getElem (by omega)⟩
      obtain ⟨hra, hok⟩ := HP.out X (List.mem_of_getElem? hX)
      have q0 : wr.cell? ⟨b, off + k * 3, none⟩ = some (.slice X.fA X.rule.filter.length X.fC) := hcs k X 0 _ hX rfl
      have q1 : wr.cell? ⟨b, off + k * 3 + 1, none⟩ = some (.slice X.pA X.rule.parts.length X.pC) := hcs k X 1 _ hX rfl
      have q2 : wr.cell? ⟨b, off + k * 3 + 2, none⟩ = some (.slice X.eA X.rule.extra.length X.eC) := hcs k X 2 _ hX rfl
      have kW := wrongClo_any X wr (hra.bel hbw) hok
      clear hcs
      cases hq : wrongR X
      · rw [hq] at kW
        have HF : Hid (∀ j x, j < k + 1 → xs[j]? = some x → wrongR x = false) := Lib.hid (fun j y hj hy => by
          by_cases e : j = k
          · subst e; rw [hX] at hy; injection hy with hy; rw [← hy]; exact hq
          · exact HG.out j y (by omega) hy)
        clear hq HG hX
        go_wp2_with (go_at_call 33; (with_reducible refine kW.mono ?_); rintro e w1 ⟨rfl, hb1⟩)
        exact ⟨⟨bl_any hbw hb1, k + 1, by omega, rfl, HF⟩, by (simp only [intOf]; omega)⟩
      · rw [hq] at kW
        have HF : Hid (xs.any wrongR = true) := Lib.hid (List.any_eq_true.2 ⟨X, List.mem_of_getElem? hX, hq⟩)
        clear hq HG hX
        go_wp2_with (go_at_call 33; (with_reducible refine kW.mono ?_); rintro e w1 ⟨rfl, hb1⟩)
        go_ret
        exact ⟨⟨k, rfl, by rw [HF.out]; exact decide_eq_true (by omega)⟩, bl_any hbw hb1⟩
    · have hdk : decide ((k : Int) < n) = false := decide_eq_false (by omega)
      have HF : Hid (xs.any wrongR = false) := Lib.hid (by
        rw [List.any_eq_false]
        intro x hx
        obtain ⟨j, hj, rfl⟩ := List.getElem_of_mem hx
        rw [HG.out j _ (by omega) (List.getElem?_eq_getElem hj)]; simp)
      clear HG
      go_wp2_with fail
      go_ret
      exact ⟨⟨-1, rfl, by rw [HF.out]; rfl⟩, hbw⟩
theorem rcon_any (A : Option Addr) (n cap : Nat) (xs : List VRule) (w : World) (hl : IsRows ruleC 3 w w.heap.size A n xs) (hr : ∀ x ∈ xs, RuleAt w w.heap.size x ∧ RuleOk x.rule) (hn : n ≤ 2097152) :
    Calls Try.prog 35 #[.slice A n cap, .func (.func 33) #[] #[]] w fun e w' => e = .returned (.bool (xs.any wrongR)) ∧ Below w.heap.size w w' := by
  have kI := ridx_any A n cap xs w hl hr hn
  clear hr
  go_enter Try.func35, Try.ntmps35
  go_wp2_with (go_at_call 52; (with_reducible refine kI.mono ?_); rintro e w1 ⟨⟨r, rfl, hr⟩, hb1⟩)
  go_ret
  first | exact ⟨ret_bool hr, hb1⟩ | exact ⟨rfl, hb1⟩
/-- A configuration: its numbers, where its rules lie. -/
structure VCfg where
  protos : Int
  bytes : Int
  points : Int
  store : Int
  mode : Int
  unit : Int
  A : Option Addr
  c : Nat
  rules : List VRule
def VCfg.val (x : VCfg) : Value := .agg #[.int .i64 x.protos, .int .i64 x.bytes, .int .i64 x.points, .int .i64 x.store, .int .i64 x.mode, .int .i64 x.unit, .slice x.A x.rules.length x.c]
structure CfgAt (w : World) (B : Nat) (x : VCfg) : Prop where
  rows : IsRows ruleC 3 w B x.A x.rules.length x.rules
  each : ∀ r ∈ x.rules, RuleAt w B r ∧ RuleOk r.rule
  len : x.rules.length ≤ 2097152
theorem CfgAt.below {w w' : World} {B : Nat} {x : VCfg} (h : CfgAt w B x) (k : Below B w w') : CfgAt w' B x := ⟨h.rows.below k, fun r hr => ⟨(h.each r hr).1.below k, (h.each r hr).2⟩, h.len⟩
theorem CfgAt.more {w : World} {B B' : Nat} {x : VCfg} (h : CfgAt w B x) (k : B ≤ B') : CfgAt w B' x := ⟨h.rows.more k, fun r hr => ⟨(h.each r hr).1.more k, (h.each r hr).2⟩, h.len⟩
def protoB (p : Int) : Bool := bits .andNot .i64 p 30 == 0
def betw (lo hi x : Int) : Bool := decide (lo ≤ x) && decide (x ≤ hi)
/-- May a configuration be? -/
def cfgB (x : VCfg) : Bool := protoB x.protos && (betw 1 4000 x.bytes && (betw 1 120 x.points && (betw 1 120 x.store && (betw 0 1 x.mode && (betw 0 3 x.unit && (decide (x.rules.length ≤ 6) && !(x.rules.any wrongR)))))))
def cfgE (x : VCfg) : Nat := if cfgB x then 0 else 19
theorem bet_cases (lo hi x : Int) (h : lo ≤ hi) : (betw lo hi x = true ∧ decide (x < lo) = false ∧ decide (hi < x) = false) ∨ (betw lo hi x = false ∧ (decide (x < lo) = true ∨ (decide (x < lo) = false ∧ decide (hi < x) = true))) := by
  unfold betw
  simp only [Bool.and_eq_true, decide_eq_true_eq, decide_eq_false_iff_not, Bool.and_eq_false_iff]
  omega
theorem mode_cases (x : Int) : (betw 0 1 x = true ∧ (((x == 0) = true ∧ (x != 0) = false) ∨ ((x == 0) = false ∧ (x != 0) = true ∧ (x == 1) = true ∧ (x != 1) = false))) ∨ (betw 0 1 x = false ∧ (x == 0) = false ∧ (x != 0) = true ∧ (x == 1) = false ∧ (x != 1) = true) := by
  unfold betw
  simp only [Bool.and_eq_true, decide_eq_true_eq, decide_eq_false_iff_not, Bool.and_eq_false_iff, beq_iff_eq, beq_eq_false_iff_ne, bne_iff_ne, bne_eq_false_iff_eq, ne_eq]
  omega
set_option maxRecDepth 100000 in
set_option maxHeartbeats 6400000 in
theorem check_any (x : VCfg) (w : World) (h : CfgAt w w.heap.size x) :
    Calls Try.prog 20 #[.agg #[.int .i64 x.protos, .int .i64 x.bytes, .int .i64 x.points, .int .i64 x.store, .int .i64 x.mode, .int .i64 x.unit, .slice x.A x.rules.length x.c]] w fun e w' => e = .returned (.int .i64 (cfgE x : Nat)) ∧ Below w.heap.size w w' := by
  have hbA := (Below.refl w.heap.size w).alloc (Nat.le_refl _) (.cells #[.int .i64 x.protos, .int .i64 x.bytes, .int .i64 x.points, .int .i64 x.store, .int .i64 x.mode, .int .i64 x.unit, .slice x.A x.rules.length x.c] 30)
  have hB := Blk.new w 30 #[.int .i64 x.protos, .int .i64 x.bytes, .int .i64 x.points, .int .i64 x.store, .int .i64 x.mode, .int .i64 x.unit, .slice x.A x.rules.length x.c]
  have c0 := (Blk.cell hB 0).trans rfl
  have c1 := (Blk.cell hB 1).trans rfl
  have c2 := (Blk.cell hB 2).trans rfl
  have c3 := (Blk.cell hB 3).trans rfl
  have c4 := (Blk.cell hB 4).trans rfl
  have c5 := (Blk.cell hB 5).trans rfl
  have c6 := (Blk.cell hB 6).trans rfl
  have hA := h.below hbA
  have hsz := hbA.size
  have kR := rcon_any x.A x.rules.length x.c x.rules _ (hA.rows.more hsz) (fun r hr => ⟨(hA.each r hr).1.more hsz, (hA.each r hr).2⟩) h.len
  have HE : Hid (cfgE x = if cfgB x then 0 else 19) := Lib.hid rfl
  have HB : Hid (cfgB x = (protoB x.protos && (betw 1 4000 x.bytes && (betw 1 120 x.points && (betw 1 120 x.store && (betw 0 1 x.mode && (betw 0 3 x.unit && (decide (x.rules.length ≤ 6) && !(x.rules.any wrongR))))))))) := Lib.hid rfl
  have HP : Hid (protoB x.protos = (bits .andNot .i64 x.protos 30 == 0)) := Lib.hid rfl
  generalize x.rules.any wrongR = V at kR HB
  clear hA h
  go_enter Try.func20, Try.ntmps20
  have o1 : bits .or .i64 0 2 = 2 := by decide
  have o2 : bits .or .i64 2 4 = 6 := by decide
  have o3 : bits .or .i64 6 8 = 14 := by decide
  have o4 : bits .or .i64 14 16 = 30 := by decide
  go_wp2_with fail
  refine wp_loop_rounds 5 ?_
  rw [rounds_succ]; go_wp2_with fail
  rw [rounds_succ]; go_wp2_with fail
  rw [rounds_succ]; go_wp2_with fail
  rw [rounds_succ]; go_wp2_with fail
  rw [rounds_succ]; go_upto_region 7 with fail
  have d6 : decide ((6 : Int) < (x.rules.length : Int)) = !decide (x.rules.length ≤ 6) := by
    by_cases h : x.rules.length ≤ 6
    · rw [decide_eq_true h]; exact decide_eq_false (by omega)
    · rw [decide_eq_false h]; exact decide_eq_true (by omega)
  have d6n : decide (6 < x.rules.length) = !decide (x.rules.length ≤ 6) := by
    by_cases h : x.rules.length ≤ 6
    · rw [decide_eq_true h]; exact decide_eq_false (by omega)
    · rw [decide_eq_false h]; exact decide_eq_true (by omega)
  cases hp : (bits .andNot .i64 x.protos 30 == 0)
  · have hp2 : (bits .andNot .i64 x.protos 30 != 0) = true := by rw [bne, hp]; rfl
    have HX : Hid (cfgE x = 19) := Lib.hid (by rw [HE.out, HB.out, HP.out, hp]; rfl)
    clear HE HB HP kR
    go_wp2_with fail
    go_ret
    exact ⟨by rw [HX.out]; rfl, hbA⟩
  have hp2 : (bits .andNot .i64 x.protos 30 != 0) = false := by rw [bne, hp]; rfl
  rw [hp] at HP
  rcases bet_cases 1 4000 x.bytes (by decide) with ⟨hb, b1, b2⟩ | ⟨hb, hq⟩
  rotate_left
  · have HX : Hid (cfgE x = 19) := Lib.hid (by rw [HE.out, HB.out, HP.out, hb]; rfl)
    clear HE HB HP kR hb
    rcases hq with b1 | ⟨b1, b2⟩
    all_goals
      go_wp2_with fail
      go_ret
      exact ⟨by rw [HX.out]; rfl, hbA⟩
  rcases bet_cases 1 120 x.points (by decide) with ⟨hpt, p1, p2⟩ | ⟨hpt, hq⟩
  rotate_left
  · have HX : Hid (cfgE x = 19) := Lib.hid (by rw [HE.out, HB.out, HP.out, hb, hpt]; rfl)
    clear HE HB HP kR hb hpt
    rcases hq with p1 | ⟨p1, p2⟩
    all_goals
      go_wp2_with fail
      go_ret
      exact ⟨by rw [HX.out]; rfl, hbA⟩
  rcases bet_cases 1 120 x.store (by decide) with ⟨hst, s1, s2⟩ | ⟨hst, hq⟩
  rotate_left
  · have HX : Hid (cfgE x = 19) := Lib.hid (by rw [HE.out, HB.out, HP.out, hb, hpt, hst]; rfl)
    clear HE HB HP kR hb hpt hst
    rcases hq with s1 | ⟨s1, s2⟩
    all_goals
      go_wp2_with fail
      go_ret
      exact ⟨by rw [HX.out]; rfl, hbA⟩
  rcases mode_cases x.mode with ⟨hm, hmq⟩ | ⟨hm, m1, m2, m3, m4⟩
  rotate_left
  · have HX : Hid (cfgE x = 19) := Lib.hid (by rw [HE.out, HB.out, HP.out, hb, hpt, hst, hm]; rfl)
    clear HE HB HP kR hb hpt hst hm
    go_wp2_with fail
    go_ret
    exact ⟨by rw [HX.out]; rfl, hbA⟩
  rcases bet_cases 0 3 x.unit (by decide) with ⟨hu, u1, u2⟩ | ⟨hu, hq⟩
  rotate_left
  · have HX : Hid (cfgE x = 19) := Lib.hid (by rw [HE.out, HB.out, HP.out, hb, hpt, hst, hm, hu]; rfl)
    clear HE HB HP kR hb hpt hst hm hu
    rcases hmq with ⟨m1, m2⟩ | ⟨m1, m2, m3, m4⟩ <;> rcases hq with u1 | ⟨u1, u2⟩
    all_goals
      go_wp2_with fail
      go_ret
      exact ⟨by rw [HX.out]; rfl, hbA⟩
  cases hl : decide (x.rules.length ≤ 6)
  · have HX : Hid (cfgE x = 19) := Lib.hid (by rw [HE.out, HB.out, HP.out, hb, hpt, hst, hm, hu, hl]; rfl)
    rw [hl] at d6 d6n
    simp only [Bool.not_false] at d6 d6n
    clear HE HB HP kR hb hpt hst hm hu hl
    rcases hmq with ⟨m1, m2⟩ | ⟨m1, m2, m3, m4⟩
    all_goals
      go_wp2_with fail
      go_ret
      exact ⟨by rw [HX.out]; rfl, hbA⟩
  have HX : Hid (cfgE x = if V then 19 else 0) := Lib.hid (by rw [HE.out, HB.out, HP.out, hb, hpt, hst, hm, hu, hl]; cases V <;> rfl)
  rw [hl] at d6 d6n
  simp only [Bool.not_true] at d6 d6n
  clear HE HB HP hb hpt hst hm hu hl
  cases V
  all_goals
    rcases hmq with ⟨m1, m2⟩ | ⟨m1, m2, m3, m4⟩
    all_goals
      go_wp2_with (go_at_call 35; (with_reducible refine kR.mono ?_); rintro e w1 ⟨rfl, hb1⟩)
      go_ret
      exact ⟨by rw [HX.out]; rfl, bl_any hbA hb1⟩
end Go.Proofs.Ytjffagffjcbolaa
