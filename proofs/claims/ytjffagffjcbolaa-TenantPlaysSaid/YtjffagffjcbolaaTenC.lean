/- Tenants: configurations that share nothing: the walk of tenant.copied. -/
import Derived.Test.YtjffagffjcbolaaTenB
import Derived.Deep.RegionHeld3
namespace Go.Proofs.Ytjffagffjcbolaa
set_option linter.unusedVariables false
set_option linter.unusedSimpArgs false
open Go.RowKit
theorem own_form {w : World} {base : Nat} {e : TypeId} {size n : Nat} {v : Value} {xs : List Value} (h : w.ownsRow base e size v n xs) : ∃ A c, v = .slice A n c := by
  obtain ⟨_, h⟩ := h
  rcases h with ⟨rfl, rfl⟩ | ⟨b, c, _, rfl, _⟩
  · exact ⟨none, 0, rfl⟩
  · exact ⟨_, c, rfl⟩
theorem own_low {w : World} {base base' : Nat} {e : TypeId} {size n : Nat} {v : Value} {xs : List Value} (h : w.ownsRow base e size v n xs) (hb : base' ≤ base) : w.ownsRow base' e size v n xs := by
  obtain ⟨hl, h⟩ := h
  refine ⟨hl, ?_⟩
  rcases h with h | ⟨b, c, cs, h1, h2, h3⟩
  · exact .inl h
  · exact .inr ⟨b, c, cs, h1, by omega, h3⟩
theorem own_drew {w : World} {base : Nat} {e : TypeId} {size n : Nat} {v : Value} {xs : List Value} (h : w.ownsRow base e size v n xs) : w.drew.ownsRow base e size v n xs := own_bel h (Below.refl _ _).drew
/-- .. carried over a call from a world of the same heap. -/
theorem own_belh {w w1 w2 : World} {base : Nat} {e : TypeId} {size n : Nat} {v : Value} {xs : List Value} (h : w.ownsRow base e size v n xs) (hb : Below w1.heap.size w1 w2) (he : w1.heap = w.heap) : w2.ownsRow base e size v n xs := by
  refine own_bel (w := w1) ?_ hb
  unfold World.ownsRow at h ⊢
  rw [he]; exact h
theorem own_own_ne {w : World} {base base' : Nat} {e e' : TypeId} {size size' n n' : Nat} {v v' : Value} {xs xs' : List Value} (h : w.ownsRow base e size v n xs) (h' : w.ownsRow base' e' size' v' n' xs') (hne : e ≠ e') : ∀ k, v.ownBlock = some k → v'.ownBlock ≠ some k := by
  intro k hk hk'
  obtain ⟨_, h⟩ := h
  obtain ⟨_, h'⟩ := h'
  rcases h with ⟨rfl, rfl⟩ | ⟨b, c, cs, rfl, _, hb, _⟩
  · simp [Value.ownBlock] at hk
  rcases h' with ⟨rfl, rfl⟩ | ⟨b', c', cs', rfl, _, hb', _⟩
  · simp [Value.ownBlock] at hk'
  simp only [Value.ownBlock, Option.map_some, Option.some.injEq] at hk hk'
  subst hk; subst hk'
  rw [hb] at hb'
  injection hb' with hb'
  injection hb' with _ h2
  exact hne h2
theorem labs_one (l : List Lab) : ∀ u ∈ l.flatMap labCell, u.oneCell' = true := by
  intro u hu
  obtain ⟨x, _, hx⟩ := List.mem_flatMap.1 hu
  simp only [labCell, List.mem_cons, List.not_mem_nil, or_false] at hx
  rcases hx with rfl | rfl <;> rfl
theorem labs_reads {w : World} {B : Nat} {A : Option Addr} {n : Nat} {l : List Lab} (h : IsRows labCell 2 w B A n l) : Reads w B 2 A n (l.flatMap labCell) := rows_reads (f := labCell) (fun _ => rfl) (by decide) h
set_option maxRecDepth 100000 in
theorem labClone_any (A : Option Addr) (n cap : Nat) (L : List Lab) (w : World) (hl : IsRows labCell 2 w w.heap.size A n L) (hn : n ≤ 2097152) :
    Calls Try.prog 40 #[.slice A n cap] w fun e w' => (∃ v, e = .returned v ∧ w'.ownsRow w.heap.size 88 2 v n (L.flatMap labCell)) ∧ Below w.heap.size w w' := by
  obtain ⟨i0, hi0, hz0, hz1, hz2⟩ := info_parts Try.infoLabel
  have hu : Try.prog.underlying 61 = some (.slice 88) := by kernel_rfl
  have q : ∀ (w : World) (a : Option Addr) (n c n' c' : Nat), (binOp .eql 61 (.slice a n c) (.slice none n' c')).run Try.prog w = .ok (.bool a.isNone) w := fun w a n c n' c' => Lib.run_eql_slice_nil w _ _ a n c n' c' hu
  cases A with
  | none =>
    have h0 : n = 0 := by
      rcases Nat.eq_zero_or_pos n with h | h
      · exact h
      · obtain ⟨_, _, e, _⟩ := hl.2 h; cases e
    subst h0
    have : L = [] := List.length_eq_zero_iff.1 hl.1
    subst this
    go_enter Try.func40, Try.ntmps40
    go_wp2_with fail
    go_ret
    exact ⟨⟨_, rfl, World.ownsRow_nil _ _ _ _⟩, Below.refl _ _⟩
  | some a =>
    go_enter Try.func40, Try.ntmps40
    go_wp2_with (at_builtin; go_loud (refine wpList_append_any _ (by rfl) (.tmp 5) (.tmp 6) _ (by rfl) w.heap.size 88 i0 _ 2 32 hu hi0 hz0 hz1 hz2 rfl (by omega) _ 0 [] (by rfl) (World.ownsRow_made w #[] 0 (Nat.le_refl _) (Nat.zero_le _) rfl) w.heap.size (some a) n cap _ (by rfl) ((labs_reads hl).below ((Below.refl _ _).alloc (Nat.le_refl _) _)) (labs_one L) (by simp [maxLen]; omega) (by omega) (by simp) ?_); intro v w1 hown hgrow hat)
    go_ret
    refine ⟨⟨v, rfl, by simpa using hown⟩, ((Below.refl _ w).alloc (Nat.le_refl _) _).grown hgrow (by simp) (by intro k hk; simp [Value.ownBlock] at hk; omega)⟩
set_option maxRecDepth 100000 in
theorem strClone_any (A : Option Addr) (n cap : Nat) (L : List ByteArray) (w : World) (hl : IsRows strCell 1 w w.heap.size A n L) (hn : n ≤ 2097152) :
    Calls Try.prog 39 #[.slice A n cap] w fun e w' => (∃ v, e = .returned v ∧ w'.ownsRow w.heap.size 9 1 v n (L.flatMap strCell)) ∧ Below w.heap.size w w' := by
  obtain ⟨i0, hi0, hz0, hz1, hz2⟩ := info_parts Try.infoString
  have hu : Try.prog.underlying 42 = some (.slice 9) := by kernel_rfl
  have q : ∀ (w : World) (a : Option Addr) (n c n' c' : Nat), (binOp .eql 42 (.slice a n c) (.slice none n' c')).run Try.prog w = .ok (.bool a.isNone) w := fun w a n c n' c' => Lib.run_eql_slice_nil w _ _ a n c n' c' hu
  cases A with
  | none =>
    have h0 : n = 0 := by
      rcases Nat.eq_zero_or_pos n with h | h
      · exact h
      · obtain ⟨_, _, e, _⟩ := hl.2 h; cases e
    subst h0
    have : L = [] := List.length_eq_zero_iff.1 hl.1
    subst this
    go_enter Try.func39, Try.ntmps39
    go_wp2_with fail
    go_ret
    exact ⟨⟨_, rfl, World.ownsRow_nil _ _ _ _⟩, Below.refl _ _⟩
  | some a =>
    go_enter Try.func39, Try.ntmps39
    go_wp2_with (at_builtin; go_loud (refine wpList_append_any _ (by rfl) (.tmp 5) (.tmp 6) _ (by rfl) w.heap.size 9 i0 _ 1 16 hu hi0 hz0 hz1 hz2 rfl (by omega) _ 0 [] (by rfl) (World.ownsRow_made w #[] 0 (Nat.le_refl _) (Nat.zero_le _) rfl) w.heap.size (some a) n cap _ (by rfl) ((strs_reads hl).below ((Below.refl _ _).alloc (Nat.le_refl _) _)) (strs_one L) (by simp [maxLen]; omega) (by omega) (by simp) ?_); intro v w1 hown hgrow hat)
    go_ret
    refine ⟨⟨v, rfl, by simpa using hown⟩, ((Below.refl _ w).alloc (Nat.le_refl _) _).grown hgrow (by simp) (by intro k hk; simp [Value.ownBlock] at hk; omega)⟩
theorem Try.infoRule : (Try.prog.info? 63).map (fun i => (i.zero, i.size, i.bytes)) = some (some (.agg #[.slice none 0 0, .slice none 0 0, .slice none 0 0]), 3, 72) := by kernel_rfl
/-- A rule whose rows are the call's own. -/
structure OwnRule (B : Nat) (w : World) (y : VRule) : Prop where
  f : w.ownsRow B 9 1 (.slice y.fA y.rule.filter.length y.fC) y.rule.filter.length (y.rule.filter.flatMap strCell)
  p : w.ownsRow B 9 1 (.slice y.pA y.rule.parts.length y.pC) y.rule.parts.length (y.rule.parts.flatMap strCell)
  e : w.ownsRow B 88 2 (.slice y.eA y.rule.extra.length y.eC) y.rule.extra.length (y.rule.extra.flatMap labCell)
structure OwnRules (B : Nat) (w : World) (v : Value) (l : List VRule) : Prop where
  own : w.ownsRow B 63 3 v l.length (l.flatMap ruleC)
  each : ∀ y ∈ l, OwnRule B w y
section
variable {B : Nat} {w w' : World} {v v' : Value} {l : List VRule} {y : VRule}
theorem OwnRule.bel (h : OwnRule B w y) (k : Below w.heap.size w w') : OwnRule B w' y := ⟨own_bel h.f k, own_bel h.p k, own_bel h.e k⟩
theorem OwnRules.bel (h : OwnRules B w v l) (k : Below w.heap.size w w') : OwnRules B w' v l := ⟨own_bel h.own k, fun y hy => (h.each y hy).bel k⟩
theorem OwnRules.belh {w1 w2 : World} (h : OwnRules B w v l) (hb : Below w1.heap.size w1 w2) (he : w1.heap = w.heap) : OwnRules B w2 v l := ⟨own_belh h.own hb he, fun y hy => ⟨own_belh (h.each y hy).f hb he, own_belh (h.each y hy).p hb he, own_belh (h.each y hy).e hb he⟩⟩
theorem OwnRules.drew (h : OwnRules B w v l) : OwnRules B w.drew v l := h.bel (Below.refl _ _).drew
theorem OwnRules.nil_ : OwnRules B w (.slice none 0 0) [] := ⟨World.ownsRow_nil _ _ _ _, by simp⟩
theorem OwnRule.aw {S : List Nat} (h : OwnRule B w y) (k : Aw S w w') (hS : ∀ i, i ∈ S → i < B) : OwnRule B w' y :=
  ⟨own_aw h.f k (fun g hg hm => by have := (h.f.lt g hg).1; have := hS g hm; omega), own_aw h.p k (fun g hg hm => by have := (h.p.lt g hg).1; have := hS g hm; omega), own_aw h.e k (fun g hg hm => by have := (h.e.lt g hg).1; have := hS g hm; omega)⟩
theorem OwnRules.aw {S : List Nat} (h : OwnRules B w v l) (k : Aw S w w') (hS : ∀ i, i ∈ S → i < B) : OwnRules B w' v l :=
  ⟨own_aw h.own k (fun g hg hm => by have := (h.own.lt g hg).1; have := hS g hm; omega), fun y hy => (h.each y hy).aw k hS⟩
theorem OwnRules.low {B' : Nat} (h : OwnRules B w v l) (hb : B' ≤ B) : OwnRules B' w v l := ⟨own_low h.own hb, fun y hy => ⟨own_low (h.each y hy).f hb, own_low (h.each y hy).p hb, own_low (h.each y hy).e hb⟩⟩
theorem OwnRules.grow (h : OwnRules B w v l) (hy : OwnRule B w y) (hg : w.grownBy w' v.ownBlock) (ho : w'.ownsRow B 63 3 v' (l.length + 1) (l.flatMap ruleC ++ ruleC y)) : OwnRules B w' v' (l ++ [y]) := by
  have q : ∀ {e : TypeId} {size n : Nat} {u : Value} {xs : List Value}, w.ownsRow B e size u n xs → e ≠ 63 → w'.ownsRow B e size u n xs := fun h' he => h'.kept hg (by
    cases hb : Value.ownBlock _ with
    | none => exact .inl rfl
    | some b => exact .inr (fun e => own_own_ne h' h.own he b hb e.symm))
  have k : ∀ x : VRule, OwnRule B w x → OwnRule B w' x := fun x hx => ⟨q hx.f (by decide), q hx.p (by decide), q hx.e (by decide)⟩
  exact ⟨by simpa using ho, fun x hx => by
    rcases List.mem_append.1 hx with hx | hx
    · exact k x (h.each x hx)
    · rw [List.mem_singleton] at hx; subst hx; exact k x hy⟩
end
/-- What stands while a rule is copied. -/
structure CS (w0 w : World) (tb : Nat) (X : VRule) : Prop where
  b : Blk w tb 63 #[.slice X.fA X.rule.filter.length X.fC, .slice X.pA X.rule.parts.length X.pC, .slice X.eA X.rule.extra.length X.eC]
  r : RuleAt w w0.heap.size X
  l : Below w0.heap.size w0 w
section
variable {w0 w w' : World} {tb : Nat} {X : VRule}
theorem CS.call (h : CS w0 w tb X) (k : Below w.heap.size w w') : CS w0 w' tb X := ⟨h.b.below k (Blk.lt h.b), h.r.below (k.mono h.l.size), bl_any h.l k⟩
theorem CS.drew (h : CS w0 w tb X) : CS w0 w.drew tb X := h.call (Below.refl _ _).drew
theorem CS.alloc (h : CS w0 w tb X) (o : Obj) : CS w0 (w.alloc o) tb X := h.call ((Below.refl _ _).alloc (Nat.le_refl _) o)
theorem CS.grown (h : CS w0 w tb X) {row : Option Nat} (k : w.grownBy w' row) (hr : ∀ i, row = some i → w0.heap.size ≤ i) (hne : row ≠ some tb) : CS w0 w' tb X :=
  ⟨h.b.grown k (fun e => hne e.symm), by
    have hb : Below w0.heap.size w w' := (Below.refl _ w).grown k h.l.size hr
    exact h.r.below hb, h.l.grown k h.l.size hr⟩
theorem CS.fs (h : CS w0 w tb X) : (w.cell? ⟨tb, 0, none⟩ = some (.slice X.fA X.rule.filter.length X.fC) ∧ w.cell? ⟨tb, 1, none⟩ = some (.slice X.pA X.rule.parts.length X.pC) ∧ w.cell? ⟨tb, 2, none⟩ = some (.slice X.eA X.rule.extra.length X.eC)) ∧ CS w0 w tb X :=
  ⟨⟨(Blk.cell h.b 0).trans rfl, (Blk.cell h.b 1).trans rfl, (Blk.cell h.b 2).trans rfl⟩, h⟩
theorem CS.cf (h : CS w0 w tb X) (hn : X.rule.filter.length ≤ 2097152) : Calls Try.prog 39 #[.slice X.fA X.rule.filter.length X.fC] w fun e w' => (∃ v, e = .returned v ∧ w'.ownsRow w.heap.size 9 1 v X.rule.filter.length (X.rule.filter.flatMap strCell)) ∧ Below w.heap.size w w' := strClone_any _ _ _ _ w (h.r.f.more h.l.size) hn
theorem CS.cp (h : CS w0 w tb X) (hn : X.rule.parts.length ≤ 2097152) : Calls Try.prog 39 #[.slice X.pA X.rule.parts.length X.pC] w fun e w' => (∃ v, e = .returned v ∧ w'.ownsRow w.heap.size 9 1 v X.rule.parts.length (X.rule.parts.flatMap strCell)) ∧ Below w.heap.size w w' := strClone_any _ _ _ _ w (h.r.p.more h.l.size) hn
theorem CS.ce (h : CS w0 w tb X) (hn : X.rule.extra.length ≤ 2097152) : Calls Try.prog 40 #[.slice X.eA X.rule.extra.length X.eC] w fun e w' => (∃ v, e = .returned v ∧ w'.ownsRow w.heap.size 88 2 v X.rule.extra.length (X.rule.extra.flatMap labCell)) ∧ Below w.heap.size w w' := labClone_any _ _ _ _ w (h.r.e.more h.l.size) hn
end
set_option maxRecDepth 100000 in
set_option maxHeartbeats 12800000 in
theorem copied_any (x : VCfg) (w : World) (h : CfgAt w w.heap.size x) :
    Calls Try.prog 24 #[.agg #[.int .i64 x.protos, .int .i64 x.bytes, .int .i64 x.points, .int .i64 x.store, .int .i64 x.mode, .int .i64 x.unit, .slice x.A x.rules.length x.c]] w fun e w' => (∃ A c qs, e = .returned (.agg #[.int .i64 x.protos, .int .i64 x.bytes, .int .i64 x.points, .int .i64 x.store, .int .i64 x.mode, .int .i64 x.unit, .slice A x.rules.length c]) ∧ qs.map VRule.rule = x.rules.map VRule.rule ∧ OwnRules w.heap.size w' (.slice A x.rules.length c) qs) ∧ Below w.heap.size w w' := by
  obtain ⟨i0, hi0, hz0, hz1, hz2⟩ := info_parts Try.infoRule
  have hu : Try.prog.underlying 28 = some (.slice 63) := by kernel_rfl
  have hz : (w.alloc (.cells #[.int .i64 x.protos, .int .i64 x.bytes, .int .i64 x.points, .int .i64 x.store, .int .i64 x.mode, .int .i64 x.unit, .slice x.A x.rules.length x.c] 30)).heap.size = w.heap.size + 1 := by simp
  have hb1 := Blk.alloc (Blk.new w 30 #[.int .i64 x.protos, .int .i64 x.bytes, .int .i64 x.points, .int .i64 x.store, .int .i64 x.mode, .int .i64 x.unit, .slice x.A x.rules.length x.c]) (.cells #[.int .i64 0, .int .i64 0, .int .i64 0, .int .i64 0, .int .i64 0, .int .i64 0, .slice none 0 0] 30)
  have hb2 := Blk.new (w.alloc (.cells #[.int .i64 x.protos, .int .i64 x.bytes, .int .i64 x.points, .int .i64 x.store, .int .i64 x.mode, .int .i64 x.unit, .slice x.A x.rules.length x.c] 30)) 30 #[.int .i64 0, .int .i64 0, .int .i64 0, .int .i64 0, .int .i64 0, .int .i64 0, .slice none 0 0]
  rw [hz] at hb2
  have hbl : Below w.heap.size w ((w.alloc (.cells #[.int .i64 x.protos, .int .i64 x.bytes, .int .i64 x.points, .int .i64 x.store, .int .i64 x.mode, .int .i64 x.unit, .slice x.A x.rules.length x.c] 30)).alloc (.cells #[.int .i64 0, .int .i64 0, .int .i64 0, .int .i64 0, .int .i64 0, .int .i64 0, .slice none 0 0] 30)) := bl_alloc (bl_alloc (Below.refl _ _) _) _
  go_enter Try.func24, Try.ntmps24
  go_upto_region 1 with (fail)
  have hcf := h.below hbl
  have hll := h.rows.1
  have HL := Lib.hid hcf.each
  have hrw := hcf.rows
  have hn := h.len
  clear h hz
  have hsz : ((w.alloc (.cells #[.int .i64 x.protos, .int .i64 x.bytes, .int .i64 x.points, .int .i64 x.store, .int .i64 x.mode, .int .i64 x.unit, .slice x.A x.rules.length x.c] 30)).alloc (.cells #[.int .i64 0, .int .i64 0, .int .i64 0, .int .i64 0, .int .i64 0, .int .i64 0, .slice none 0 0] 30)).heap.size = w.heap.size + 2 := by simp
  generalize ((w.alloc (.cells #[.int .i64 x.protos, .int .i64 x.bytes, .int .i64 x.points, .int .i64 x.store, .int .i64 x.mode, .int .i64 x.unit, .slice x.A x.rules.length x.c] 30)).alloc (.cells #[.int .i64 0, .int .i64 0, .int .i64 0, .int .i64 0, .int .i64 0, .int .i64 0, .slice none 0 0] 30)) = W at *
  generalize hbz : w.heap.size = b at *
  have c6 := (Blk.cell hb1 6).trans rfl
  clear hcf
  go_upto_region 3 with (fail)
  go_loopw [3, 9] (fun ov i wr => Below W.heap.size W wr ∧ ∃ (k : Nat) (qs : List VRule) (u : Value), u = ov ∧ k ≤ x.rules.length ∧ i = .int .i64 k ∧ qs.length = k ∧ Hid (qs.map VRule.rule = (x.rules.take k).map VRule.rule) ∧ OwnRules W.heap.size wr u qs) (fun _ i _ => x.rules.length - (intOf i).toNat)
  case atStart => exact ⟨Below.refl _ _, 0, [], _, rfl, by omega, rfl, rfl, Lib.hid rfl, OwnRules.nil_⟩
  case round =>
    obtain ⟨hbw, k, qs, ov, rfl, hk, rfl, hql, HQ, hO⟩ := hrel
    by_cases hlt : k < x.rules.length
    · have hd : decide ((k : Int) < (x.rules.length : Int)) = true := decide_eq_true (by omega)
      have hk0 : (0 : Int) ≤ k := by omega
      have hk1 : (k : Int) < (x.rules.length : Int) := by omega
      obtain ⟨bb, off, hA, hb, hcs⟩ := ((hrw.more (by omega : b ≤ W.heap.size)).below hbw).2 (by omega)
      obtain ⟨X, hX⟩ : ∃ X, x.rules[k]? = some X := ⟨_, List.getElem?_eq_getElem (by omega)⟩
      have q0 : wr.cell? ⟨bb, off + k * 3, none⟩ = some (.slice X.fA X.rule.filter.length X.fC) := hcs k X 0 _ hX rfl
      have q1 : wr.cell? ⟨bb, off + k * 3 + 1, none⟩ = some (.slice X.pA X.rule.parts.length X.pC) := hcs k X 1 _ hX rfl
      have q2 : wr.cell? ⟨bb, off + k * 3 + 2, none⟩ = some (.slice X.eA X.rule.extra.length X.eC) := hcs k X 2 _ hX rfl
      obtain ⟨hra, hok⟩ := HL.out X (List.mem_of_getElem? hX)
      have hbt : Below W.heap.size W (wr.alloc (.cells #[.slice X.fA X.rule.filter.length X.fC, .slice X.pA X.rule.parts.length X.pC, .slice X.eA X.rule.extra.length X.eC] 63)) := bl_alloc hbw _
      have hCS : CS W (wr.alloc (.cells #[.slice X.fA X.rule.filter.length X.fC, .slice X.pA X.rule.parts.length X.pC, .slice X.eA X.rule.extra.length X.eC] 63)) wr.heap.size X :=
        ⟨Blk.new wr _ _, (hra.more (by omega)).below hbt, hbt⟩
      have hov : ∀ j, ov.ownBlock = some j → j < wr.heap.size := fun j e => (hO.own.lt j e).2
      replace hO := hO.bel ((Below.refl wr.heap.size wr).alloc (Nat.le_refl _) (.cells #[.slice X.fA X.rule.filter.length X.fC, .slice X.pA X.rule.parts.length X.pC, .slice X.eA X.rule.extra.length X.eC] 63))
      have hf := hok.f.1
      have hp := hok.p.1
      have he := hok.e.1
      have htk : x.rules.take (k + 1) = x.rules.take k ++ [X] := by rw [List.take_add_one, hX]; rfl
      have HN : ∀ q : VRule, q.rule = X.rule → Hid ((qs ++ [q]).map VRule.rule = (x.rules.take (k + 1)).map VRule.rule) := fun q hq => Lib.hid (by rw [htk, List.map_append, List.map_append, HQ.out]; simp [hq])
      have hA' := Lib.hid hA
      rw [hA] at hb1 c6 ⊢
      clear hcs hX HQ htk hra hok hbt
      go_upto_region 5 with (fail)
      have hwt : wr.heap.size < (wr.alloc (.cells #[.slice X.fA X.rule.filter.length X.fC, .slice X.pA X.rule.parts.length X.pC, .slice X.eA X.rule.extra.length X.eC] 63)).heap.size := by simp
      clear q0 q1 q2
      generalize wr.alloc (.cells #[.slice X.fA X.rule.filter.length X.fC, .slice X.pA X.rule.parts.length X.pC, .slice X.eA X.rule.extra.length X.eC] 63) = Wt at *
      generalize wr.heap.size = tb at *
      go_region_held3 (fun w' => (w'.cell? ⟨tb, 0, none⟩ = some (.slice X.fA X.rule.filter.length X.fC) ∧ w'.cell? ⟨tb, 1, none⟩ = some (.slice X.pA X.rule.parts.length X.pC) ∧ w'.cell? ⟨tb, 2, none⟩ = some (.slice X.eA X.rule.extra.length X.eC)) ∧ CS W w' tb X) (first | (with_reducible assumption) | (with_reducible exact hCS.fs) | (with_reducible exact hCS.drew.fs) | (with_reducible exact (CS.drew (And.right (by with_reducible assumption))).fs) | (with_reducible exact (CS.alloc (And.right (by with_reducible assumption)) _).fs)) (first
        | (go_at_call 39; (with_reducible refine (CS.cf (And.right (by with_reducible assumption)) hf).mono ?_); rintro en w5 ⟨⟨fv, rfl, hoF⟩, hbF⟩; obtain ⟨AF, CF, rfl⟩ := own_form hoF; have S5 := (CS.call (And.right (by with_reducible assumption)) hbF).fs; replace hO := OwnRules.belh hO hbF rfl; (try replace hoP := own_belh hoP hbF rfl); (try replace hoE := own_belh hoE hbF rfl))
        | (go_at_call 39; (with_reducible refine (CS.cp (And.right (by with_reducible assumption)) hp).mono ?_); rintro en w6 ⟨⟨pv, rfl, hoP⟩, hbP⟩; obtain ⟨AP, CP, rfl⟩ := own_form hoP; have S6 := (CS.call (And.right (by with_reducible assumption)) hbP).fs; replace hO := OwnRules.belh hO hbP rfl; (try replace hoF := own_belh hoF hbP rfl); (try replace hoE := own_belh hoE hbP rfl))
        | (go_at_call 40; (with_reducible refine (CS.ce (And.right (by with_reducible assumption)) he).mono ?_); rintro en w7 ⟨⟨ev, rfl, hoE⟩, hbE⟩; obtain ⟨AE, CE, rfl⟩ := own_form hoE; have S7 := (CS.call (And.right (by with_reducible assumption)) hbE).fs; replace hO := OwnRules.belh hO hbE rfl; (try replace hoF := own_belh hoF hbE rfl); (try replace hoP := own_belh hoP hbE rfl))
        | (refine step_append_lies _ (by rfl) _ _ _ (by rfl) W.heap.size 63 i0 _ 3 72 hu hi0 hz0 hz1 hz2 rfl (by omega) ov qs.length (qs.flatMap ruleC) (by rfl) (by first | exact hO.own.alloc _ | exact (hO.own.alloc _).drew | exact hO.own.drew.alloc _ | exact (hO.own.drew.alloc _).drew) ⟨w5.heap.size, 0, none⟩ 1 1 (ruleC ⟨X.rule, AF, CF, AP, CP, AE, CE⟩) (by rfl) (by rfl) (World.news_of_block (heap_alloc_new w5 _)) (by simp [ruleC, Value.oneCell']) (by omega) (by simp [maxLen]; omega) (by omega) (CS.l (And.right (by with_reducible assumption))).size (w5.heap.size + 1) (by simp) ?_; intro gg capg w9 hown9 hgrow hat hlt9; have hST : CS W _ tb X := (And.right (by with_reducible assumption)); have S9 := (CS.grown hST hgrow (fun j e => (hO.own.lt j e).1) (fun e => absurd (hov _ e) (Nat.lt_irrefl _))).fs) | (refine step_append_lies _ (by rfl) _ _ _ (by rfl) W.heap.size 63 i0 _ 3 72 hu hi0 hz0 hz1 hz2 rfl (by omega) ov qs.length (qs.flatMap ruleC) (by rfl) (by first | exact hO.own.alloc _ | exact (hO.own.alloc _).drew | exact hO.own.drew.alloc _ | exact (hO.own.drew.alloc _).drew) ⟨w6.heap.size, 0, none⟩ 1 1 (ruleC ⟨X.rule, AF, CF, AP, CP, AE, CE⟩) (by rfl) (by rfl) (World.news_of_block (heap_alloc_new w6 _)) (by simp [ruleC, Value.oneCell']) (by omega) (by simp [maxLen]; omega) (by omega) (CS.l (And.right (by with_reducible assumption))).size (w6.heap.size + 1) (by simp) ?_; intro gg capg w9 hown9 hgrow hat hlt9; have hST : CS W _ tb X := (And.right (by with_reducible assumption)); have S9 := (CS.grown hST hgrow (fun j e => (hO.own.lt j e).1) (fun e => absurd (hov _ e) (Nat.lt_irrefl _))).fs) | (refine step_append_lies _ (by rfl) _ _ _ (by rfl) W.heap.size 63 i0 _ 3 72 hu hi0 hz0 hz1 hz2 rfl (by omega) ov qs.length (qs.flatMap ruleC) (by rfl) (by first | exact hO.own.alloc _ | exact (hO.own.alloc _).drew | exact hO.own.drew.alloc _ | exact (hO.own.drew.alloc _).drew) ⟨w7.heap.size, 0, none⟩ 1 1 (ruleC ⟨X.rule, AF, CF, AP, CP, AE, CE⟩) (by rfl) (by rfl) (World.news_of_block (heap_alloc_new w7 _)) (by simp [ruleC, Value.oneCell']) (by omega) (by simp [maxLen]; omega) (by omega) (CS.l (And.right (by with_reducible assumption))).size (w7.heap.size + 1) (by simp) ?_; intro gg capg w9 hown9 hgrow hat hlt9; have hST : CS W _ tb X := (And.right (by with_reducible assumption)); have S9 := (CS.grown hST hgrow (fun j e => (hO.own.lt j e).1) (fun e => absurd (hov _ e) (Nat.lt_irrefl _))).fs))
      all_goals
        rename_i hHeld
        obtain ⟨_, hY⟩ := hHeld
        go_wp2_with fail
        have z5 := (And.right S5).l.size
        have z6 := (And.right S6).l.size
        have z7 := (And.right S7).l.size
        have z0 := hCS.l.size
        have zd : Wt.drew.heap.size = Wt.heap.size := rfl
        have hO4 := OwnRules.grow (y := ⟨X.rule, AF, CF, AP, CP, AE, CE⟩) (hO.bel ((Below.refl _ w7).alloc (Nat.le_refl _) _)) ⟨(own_low hoF (by omega)).alloc _, (own_low hoP (by omega)).alloc _, (own_low hoE (by omega)).alloc _⟩ hgrow hown9
        exact ⟨⟨hY.l, k + 1, qs ++ [⟨X.rule, AF, CF, AP, CP, AE, CE⟩], _, rfl, by omega, rfl, by simp [hql], HN _ rfl, by rw [hql] at hO4; exact hO4⟩, by (simp only [intOf]; omega)⟩
    · have hd : decide ((k : Int) < (x.rules.length : Int)) = false := decide_eq_false (by omega)
      obtain rfl : k = x.rules.length := by omega
      have hQ := HQ.out
      rw [List.take_of_length_le (Nat.le_refl _)] at hQ
      clear HQ HL
      obtain ⟨oA, oc, rfl⟩ := own_form hO.own
      rw [hql] at hO ⊢
      have hb11 := hb1.below hbw (by omega)
      have hb21 := hb2.below hbw (by omega)
      have f6 := Blk.frozen hb11 6
      have e6 := (Blk.cell hb11 6).trans rfl
      have hb12 := Blk.set_ hb11 6 (.slice oA x.rules.length oc)
      have hb22 := Blk.far hb21 (p := ⟨b, 6, none⟩) (by simp) (.slice oA x.rules.length oc)
      have hA6 := (Aw.refl [b] wr).setCell (p := ⟨b, 6, none⟩) (.inl (by simp)) (.slice oA x.rules.length oc)
      go_upto_region 8 with (fail)
      generalize wr.setCell ⟨b, 6, none⟩ (.slice oA x.rules.length oc) = w2 at *
      have q0 := (Blk.cell hb12 0).trans rfl; have q1 := (Blk.cell hb12 1).trans rfl; have q2 := (Blk.cell hb12 2).trans rfl; have q3 := (Blk.cell hb12 3).trans rfl; have q4 := (Blk.cell hb12 4).trans rfl; have q5 := (Blk.cell hb12 5).trans rfl; have q6 := (Blk.cell hb12 6).trans rfl
      have d0 := (Blk.cell hb22 0).trans rfl; have d1 := (Blk.cell hb22 1).trans rfl; have d2 := (Blk.cell hb22 2).trans rfl; have d3 := (Blk.cell hb22 3).trans rfl; have d4 := (Blk.cell hb22 4).trans rfl; have d5 := (Blk.cell hb22 5).trans rfl; have d6 := (Blk.cell hb22 6).trans rfl
      have g0 := Blk.frozen hb22 0; have g1 := Blk.frozen hb22 1; have g2 := Blk.frozen hb22 2; have g3 := Blk.frozen hb22 3; have g4 := Blk.frozen hb22 4; have g5 := Blk.frozen hb22 5; have g6 := Blk.frozen hb22 6
      go_wp2_with fail
      have hA9 := ((((((((Aw.refl [b + 1] w2).setCell (p := ⟨b + 1, 0, none⟩) (.inl (by simp)) (.int .i64 x.protos)).setCell (p := ⟨b + 1, 1, none⟩) (.inl (by simp)) (.int .i64 x.bytes)).setCell (p := ⟨b + 1, 2, none⟩) (.inl (by simp)) (.int .i64 x.points)).setCell (p := ⟨b + 1, 3, none⟩) (.inl (by simp)) (.int .i64 x.store)).setCell (p := ⟨b + 1, 4, none⟩) (.inl (by simp)) (.int .i64 x.mode)).setCell (p := ⟨b + 1, 5, none⟩) (.inl (by simp)) (.int .i64 x.unit)).setCell (p := ⟨b + 1, 6, none⟩) (.inl (by simp)) (.slice oA x.rules.length oc))
      refine bodyPost_ret (v := .agg #[.int .i64 x.protos, .int .i64 x.bytes, .int .i64 x.points, .int .i64 x.store, .int .i64 x.mode, .int .i64 x.unit, .slice oA x.rules.length oc]) (by simp [results, Try.results24, go_sem, d0, d1, d2, d3, d4, d5, d6]) rfl ⟨⟨oA, oc, qs, rfl, hQ, ((hO.aw hA6 (fun i hi => by simp at hi; omega)).aw hA9 (fun i hi => by simp at hi; omega)).low (by omega)⟩, ?_⟩
      rw [hbz]
      exact ((hbl.trans (hbw.mono (by omega))).trans (hA6.bel_of (fun k hk => by simp at hk; omega) (by have := hbw.size; omega))).trans (hA9.bel_of (fun k hk => by simp at hk; omega) (by have := hA6.size; have := hbw.size; omega))
end Go.Proofs.Ytjffagffjcbolaa
