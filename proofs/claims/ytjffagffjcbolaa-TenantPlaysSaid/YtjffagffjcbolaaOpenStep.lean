/- Steps of tenants that came in. -/
import Derived.Test.YtjffagffjcbolaaRows
import Derived.Test.YtjffagffjcbolaaOpenStr
import Derived.Test.YtjffagffjcbolaaOpenLab
import Derived.Test.YtjffagffjcbolaaTenE
import Derived.WideShapes
namespace Go.Proofs.Ytjffagffjcbolaa
set_option linter.unusedVariables false
set_option linter.unusedSimpArgs false
open Go.RowKit
theorem Try.cellsOfRule : Try.prog.cellsOf 63 = 3 := by kernel_rfl
theorem Try.cellsOfSS : Try.prog.cellsOf 42 = 1 := by kernel_rfl
theorem Try.cellsOfLL : Try.prog.cellsOf 61 = 1 := by kernel_rfl
/-- The sizes in a rule that came in. -/
structure RuleIn (r : MRule) : Prop where
  f : ∀ x ∈ r.filter, x.size ≤ maxLen
  p : ∀ x ∈ r.parts, x.size ≤ maxLen
  e : ∀ x ∈ r.extra, x.1.size ≤ maxLen ∧ x.2.size ≤ maxLen
theorem RuleIn.ok {r : MRule} (h : RuleIn r) (h1 : r.filter.length ≤ 2097152) (h2 : r.parts.length ≤ 2097152) (h3 : r.extra.length ≤ 2097152) : RuleOk r :=
  ⟨⟨h1, h.f⟩, ⟨h2, h.p⟩, ⟨h3, h.e⟩⟩
/-- A rule that lies there. -/
structure RuleHere (w : World) (y : VRule) : Prop where
  a : RuleAt w w.heap.size y
  i : RuleIn y.rule
  f : y.rule.filter.length ≤ maxLen
  p : y.rule.parts.length ≤ maxLen
  e : y.rule.extra.length ≤ maxLen
section
variable {H : Type} {enc : TypeId × Value → H} {P : Program} {w : World} {base : Nat} {spare : Nat → Bool} {held : Bool}
theorem slice_form {t e : TypeId} {fuel : Nat} {cs : List Value} {x : DataW H × List MemPlace} (ht : P.underlying t = some (.slice e)) (h : DataW.trod enc P w base spare held fuel t cs = some x) : ∃ A len cap, cs = [.slice A len cap] := by
  rcases Go.Deep.open_slice ht h with ⟨hcs, _⟩ | ⟨a, l, c, m, n, D, Pl, hcs, _⟩
  · exact ⟨_, _, _, hcs⟩
  · exact ⟨_, _, _, hcs⟩
end
section
variable {H : Type} {enc : TypeId × Value → H} {w : World} {base : Nat} {spare : Nat → Bool} {held : Bool}
set_option maxRecDepth 100000 in
theorem strs_in {n : Nat} {c : Value} {x : DataW H × List MemPlace} (h : DataW.trod enc Try.prog w base spare held n 42 [c] = some x) :
    ∃ A cap xs, c = .slice A xs.length cap ∧ IsRows strCell 1 w w.heap.size A xs.length xs ∧ (∀ x ∈ xs, x.size ≤ maxLen) ∧ xs.length ≤ maxLen := by
  obtain ⟨A, len, cap, hc⟩ := slice_form Try.underlying42 h
  obtain rfl : c = .slice A len cap := by simpa using hc
  obtain ⟨xs, h1, h4, h2, h3⟩ := open_isRows strCell (fun x => x.size ≤ maxLen) 1 Try.cellsOfStr (by omega) Try.underlying42 (fun n cs x hx => by
    obtain ⟨y, e, _, hy⟩ := DataW.trod_string Try.underlying9 hx
    exact ⟨y, e, hy⟩) (A := A) (len := len) (cap := cap) ⟨n, by simpa [Value.cells] using h⟩
  obtain rfl : xs.length = len := h1.1
  exact ⟨A, cap, xs, rfl, h1, h4, Nat.le_trans h2 h3⟩
set_option maxRecDepth 100000 in
theorem labs_in {n : Nat} {c : Value} {x : DataW H × List MemPlace} (h : DataW.trod enc Try.prog w base spare held n 61 [c] = some x) :
    ∃ A cap xs, c = .slice A xs.length cap ∧ IsRows labCell 2 w w.heap.size A xs.length xs ∧ (∀ x ∈ xs, x.1.size ≤ maxLen ∧ x.2.size ≤ maxLen) ∧ xs.length ≤ maxLen := by
  obtain ⟨A, len, cap, hc⟩ := slice_form Try.underlying61 h
  obtain rfl : c = .slice A len cap := by simpa using hc
  obtain ⟨xs, h1, h4, h2, h3⟩ := open_isRows labCell (fun x => x.1.size ≤ maxLen ∧ x.2.size ≤ maxLen) 2 Try.cellsOfLab (by omega) Try.underlying61 (fun n cs x hx => open_lab hx) (A := A) (len := len) (cap := cap) ⟨n, by simpa [Value.cells] using h⟩
  obtain rfl : xs.length = len := h1.1
  exact ⟨A, cap, xs, rfl, h1, h4, Nat.le_trans h2 h3⟩
set_option maxRecDepth 100000 in
theorem rule_cells {n : Nat} {cs : List Value} {x : DataW H × List MemPlace} (h : DataW.trod enc Try.prog w base spare held n 63 cs = some x) :
    ∃ y : VRule, cs = ruleC y ∧ RuleHere w y := by
  obtain ⟨ys, n', hn', hy, hlen, hyl, hf⟩ := DataW.trod_struct Try.underlying63 h
  rw [Try.cellsOfRule] at hlen
  match cs, hlen with
  | [c0, c1, c2], _ =>
    match ys, hyl with
    | [y0, y1, y2], _ =>
      have h0 := hf 0 _ rfl
      have h1 := hf 1 _ rfl
      have h2 := hf 2 _ rfl
      simp [Try.cellsOfSS, Try.cellsOfLL] at h0 h1 h2
      obtain ⟨fA, fC, fs, rfl, f1, f2, f3⟩ := strs_in h0
      obtain ⟨pA, pC, ps, rfl, p1, p2, p3⟩ := strs_in h1
      obtain ⟨eA, eC, es, rfl, e1, e2, e3⟩ := labs_in h2
      exact ⟨⟨⟨fs, ps, es⟩, fA, fC, pA, pC, eA, eC⟩, rfl, ⟨f1, p1, e1⟩, ⟨f2, p2, e2⟩, f3, p3, e3⟩
end
theorem Try.cellsOfCfg : Try.prog.cellsOf 30 = 7 := by kernel_rfl
theorem Try.cellsOfStep : Try.prog.cellsOf 33 = 10 := by kernel_rfl
theorem Try.cellsOfInt : Try.prog.cellsOf 3 = 1 := by kernel_rfl
theorem Try.cellsOfRR : Try.prog.cellsOf 28 = 1 := by kernel_rfl
theorem Try.cellsOfII : Try.prog.cellsOf 31 = 1 := by kernel_rfl
/-- A step: its name, its configuration, what is asked. -/
structure VStep where
  kind : Int
  name : ByteArray
  cfg : VCfg
  pA : Option Addr
  pc : Nat
  ps : List Int
def stepCell (x : VStep) : List Value := [.int .i64 x.kind, .string x.name, .int .i64 x.cfg.protos, .int .i64 x.cfg.bytes, .int .i64 x.cfg.points, .int .i64 x.cfg.store, .int .i64 x.cfg.mode, .int .i64 x.cfg.unit, .slice x.cfg.A x.cfg.rules.length x.cfg.c, .slice x.pA x.ps.length x.pc]
structure CfgHere (w : World) (x : VCfg) : Prop where
  rows : IsRows ruleC 3 w w.heap.size x.A x.rules.length x.rules
  each : ∀ r ∈ x.rules, RuleHere w r
  len : x.rules.length ≤ maxLen
  protos : -9223372036854775808 ≤ x.protos
structure StepHere (w : World) (x : VStep) : Prop where
  name : x.name.size ≤ maxLen
  cfg : CfgHere w x.cfg
  row : IsRows intCell 1 w w.heap.size x.pA x.ps.length x.ps
  len : x.ps.length ≤ maxLen
section
variable {H : Type} {enc : TypeId × Value → H} {w : World} {base : Nat} {spare : Nat → Bool} {held : Bool}
theorem i64_lo {n : Int} (h : (Lit.int .i64 n).wf = true) : -9223372036854775808 ≤ n := by
  simp [Lit.wf, IntKind.min, IntKind.max, IntKind.signed, IntKind.bits] at h
  omega
set_option maxRecDepth 100000 in
theorem rules_in {n : Nat} {c : Value} {x : DataW H × List MemPlace} (h : DataW.trod enc Try.prog w base spare held n 28 [c] = some x) :
    ∃ A cap xs, c = .slice A xs.length cap ∧ IsRows ruleC 3 w w.heap.size A xs.length xs ∧ (∀ x ∈ xs, RuleHere w x) ∧ xs.length ≤ maxLen := by
  obtain ⟨A, len, cap, hc⟩ := slice_form Try.underlying28 h
  obtain rfl : c = .slice A len cap := by simpa using hc
  haveI : Inhabited VRule := ⟨⟨⟨[], [], []⟩, none, 0, none, 0, none, 0⟩⟩
  obtain ⟨xs, h1, h4, h2, h3⟩ := open_isRows ruleC (RuleHere w) 3 Try.cellsOfRule (by omega) Try.underlying28 (fun n cs x hx => rule_cells hx) (A := A) (len := len) (cap := cap) ⟨n, by simpa [Value.cells] using h⟩
  obtain rfl : xs.length = len := h1.1
  exact ⟨A, cap, xs, rfl, h1, h4, Nat.le_trans h2 h3⟩
set_option maxRecDepth 100000 in
theorem ints_in {n : Nat} {c : Value} {x : DataW H × List MemPlace} (h : DataW.trod enc Try.prog w base spare held n 31 [c] = some x) :
    ∃ A cap xs, c = .slice A xs.length cap ∧ IsRows intCell 1 w w.heap.size A xs.length xs ∧ xs.length ≤ maxLen := by
  obtain ⟨A, len, cap, hc⟩ := slice_form Try.underlying31 h
  obtain rfl : c = .slice A len cap := by simpa using hc
  obtain ⟨xs, h1, h4, h2, h3⟩ := open_isRows intCell (fun _ => True) 1 Try.cellsOfInt (by omega) Try.underlying31 (fun n cs x hx => by
    obtain ⟨y, e, _, hy⟩ := DataW.trod_int Try.underlying3 hx
    exact ⟨y, e, trivial⟩) (A := A) (len := len) (cap := cap) ⟨n, by simpa [Value.cells] using h⟩
  obtain rfl : xs.length = len := h1.1
  exact ⟨A, cap, xs, rfl, h1, Nat.le_trans h2 h3⟩
set_option maxRecDepth 100000 in
theorem cfg_cells {n : Nat} {cs : List Value} {x : DataW H × List MemPlace} (h : DataW.trod enc Try.prog w base spare held n 30 cs = some x) :
    ∃ y : VCfg, cs = [.int .i64 y.protos, .int .i64 y.bytes, .int .i64 y.points, .int .i64 y.store, .int .i64 y.mode, .int .i64 y.unit, .slice y.A y.rules.length y.c] ∧ CfgHere w y := by
  obtain ⟨ys, n', hn', hy, hlen, hyl, hf⟩ := DataW.trod_struct Try.underlying30 h
  rw [Try.cellsOfCfg] at hlen
  match cs, hlen with
  | [c0, c1, c2, c3, c4, c5, c6], _ =>
    match ys, hyl with
    | [y0, y1, y2, y3, y4, y5, y6], _ =>
      have h0 := hf 0 _ rfl; have h1 := hf 1 _ rfl; have h2 := hf 2 _ rfl; have h3 := hf 3 _ rfl; have h4 := hf 4 _ rfl; have h5 := hf 5 _ rfl; have h6 := hf 6 _ rfl
      simp [Try.cellsOfInt, Try.cellsOfRR] at h0 h1 h2 h3 h4 h5 h6
      obtain ⟨z0, e0, _, w0⟩ := DataW.trod_int Try.underlying3 h0
      obtain ⟨z1, e1, _, _⟩ := DataW.trod_int Try.underlying3 h1
      obtain ⟨z2, e2, _, _⟩ := DataW.trod_int Try.underlying3 h2
      obtain ⟨z3, e3, _, _⟩ := DataW.trod_int Try.underlying3 h3
      obtain ⟨z4, e4, _, _⟩ := DataW.trod_int Try.underlying3 h4
      obtain ⟨z5, e5, _, _⟩ := DataW.trod_int Try.underlying3 h5
      obtain ⟨A, cap, xs, rfl, r1, r2, r3⟩ := rules_in h6
      simp only [List.cons.injEq, and_true] at e0 e1 e2 e3 e4 e5
      subst e0 e1 e2 e3 e4 e5
      exact ⟨⟨z0, z1, z2, z3, z4, z5, A, cap, xs⟩, rfl, r1, r2, r3, i64_lo w0⟩
set_option maxRecDepth 100000 in
theorem step_cells {n : Nat} {cs : List Value} {x : DataW H × List MemPlace} (h : DataW.trod enc Try.prog w base spare held n 33 cs = some x) :
    ∃ y : VStep, cs = stepCell y ∧ StepHere w y := by
  obtain ⟨ys, n', hn', hy, hlen, hyl, hf⟩ := DataW.trod_struct Try.underlying33 h
  rw [Try.cellsOfStep] at hlen
  match cs, hlen with
  | [c0, c1, c2, c3, c4, c5, c6, c7, c8, c9], _ =>
    match ys, hyl with
    | [y0, y1, y2, y3], _ =>
      have h0 := hf 0 _ rfl; have h1 := hf 1 _ rfl; have h2 := hf 2 _ rfl; have h3 := hf 3 _ rfl
      simp [Try.cellsOfInt, Try.cellsOfStr, Try.cellsOfCfg, Try.cellsOfII] at h0 h1 h2 h3
      obtain ⟨z0, e0, _, _⟩ := DataW.trod_int Try.underlying3 h0
      obtain ⟨nm, e1, _, hnm⟩ := DataW.trod_string Try.underlying9 h1
      obtain ⟨cf, e2, hcf⟩ := cfg_cells h2
      obtain ⟨A, cap, xs, rfl, r1, r3⟩ := ints_in h3
      simp only [List.cons.injEq, and_true] at e0 e1 e2
      obtain ⟨e20, e21, e22, e23, e24, e25, e26⟩ := e2
      subst e0 e1 e20 e21 e22 e23 e24 e25 e26
      exact ⟨⟨z0, nm, cf, A, cap, xs⟩, rfl, hnm, hcf, r1, r3⟩
/-- A slice of steps that came in. -/
def IsSteps (w : World) (A : Option Addr) (len cap : Nat) (xs : List VStep) : Prop := IsRows stepCell 10 w w.heap.size A len xs ∧ (∀ x ∈ xs, StepHere w x) ∧ len ≤ cap ∧ cap ≤ maxLen
set_option maxRecDepth 100000 in
theorem open_isSteps {A : Option Addr} {len cap : Nat} {d : DataW H} {ps : List MemPlace}
    (h : DataW.Trod enc Try.prog w base spare held 22 (.slice A len cap) d ps) : ∃ xs, IsSteps w A len cap xs := by
  obtain ⟨fuel, hf⟩ := h
  haveI : Inhabited VStep := ⟨⟨0, ⟨#[]⟩, cfg0, none, 0, []⟩⟩
  obtain ⟨xs, h1, h4, h2, h3⟩ := open_isRows stepCell (StepHere w) 10 Try.cellsOfStep (by omega) Try.underlying22 (fun n cs x hx => step_cells hx) ⟨fuel, hf⟩
  exact ⟨xs, h1, h4, h2, h3⟩
end
end Go.Proofs.Ytjffagffjcbolaa
