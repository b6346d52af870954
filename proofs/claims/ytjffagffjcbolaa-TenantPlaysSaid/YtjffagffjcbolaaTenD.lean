/- Tenants: the book: its memory; New, Names, Drop. -/
import Derived.Test.YtjffagffjcbolaaTenC
import Derived.Maps.OwnSet
namespace Go.Proofs.Ytjffagffjcbolaa
set_option linter.unusedVariables false
set_option linter.unusedSimpArgs false
open Go.RowKit
def kText (s : ByteArray) : List UInt8 := s.data.toList
theorem cfgLaw : Maps.Keyed Try.prog 9 := Maps.string_keyed Try.underlying9
theorem keyT {s : ByteArray} (h : s.size ≤ maxLen) : keyOf Try.prog 9 (.string s) = some (.string s.data.toList) := Go.WideMaps.keyOf_string_mk Try.underlying9 h
def cfgZ : Value := .agg #[.int .i64 0, .int .i64 0, .int .i64 0, .int .i64 0, .int .i64 0, .int .i64 0, .slice none 0 0]
def cfg0 : VCfg := ⟨0, 0, 0, 0, 0, 0, none, 0, []⟩
theorem cfg0_val : cfg0.val = cfgZ := rfl
theorem zeroCfg (w : World) : (zeroValue 30).run Try.prog w = .ok cfgZ w := by kernel_rfl
theorem ownsMap_tight {H : Type} {P : Program} {k : TypeId} {R : Value → Option (DataW H × List MemPlace)} {w : World} {b n : Nat} {D : DataW H} (h : w.ownsMap P k R b n D) : w.ownsMap P k R b (Maps.size D) D := by
  obtain ⟨es, clock, hb, F, hs, rfl⟩ := h
  exact ⟨es, clock, hb, F, by simp [Maps.size, length_sorted], rfl⟩
abbrev Bk := KV VCfg
/-- What a book holds, and where. -/
structure BookAt (w : World) (p b : Nat) (m : Bk) : Prop where
  blk : Blk w p 68 #[.map (some b)]
  own : w.ownsMap Try.prog 9 heldE b m.length (dKV VCfg.val m)
  up : UpKV m
  cfg : ∀ x ∈ m, CfgAt w w.heap.size x.2
theorem CfgAt.bel {w w' : World} {x : VCfg} (h : CfgAt w w.heap.size x) (k : Below w.heap.size w w') : CfgAt w' w'.heap.size x := (h.below k).more k.size
theorem ownsMap_bel {H : Type} {P : Program} {k : TypeId} {R : Value → Option (DataW H × List MemPlace)} {w w' : World} {b n : Nat} {D : DataW H} (h : w.ownsMap P k R b n D) (hb : Below w.heap.size w w') : w'.ownsMap P k R b n D := by
  obtain ⟨es, clock, hbk, r⟩ := h
  exact ⟨es, clock, (hb.block b (Array.getElem?_eq_some_iff.1 hbk).1).trans hbk, r⟩
section
variable {w w' : World} {p b : Nat} {m : Bk}
theorem BookAt.lt (h : BookAt w p b m) : b < w.heap.size := h.own.lt
theorem BookAt.bel (h : BookAt w p b m) (k : Below w.heap.size w w') : BookAt w' p b m :=
  ⟨h.blk.below k (Blk.lt h.blk), ownsMap_bel h.own k, h.up, fun x hx => (h.cfg x hx).bel k⟩
theorem BookAt.drew (h : BookAt w p b m) : BookAt w.drew p b m := h.bel (Below.refl _ _).drew
theorem BookAt.alloc (h : BookAt w p b m) (o : Obj) : BookAt (w.alloc o) p b m := h.bel ((Below.refl _ _).alloc (Nat.le_refl _) o)
/-- Rows stay where a map is turned. -/
theorem rows_turned {α : Type} {f : α → List Value} {size B n : Nat} {A : Option Addr} {xs : List α} (h : IsRows f size w B A n xs) (k : w.mapTurned w' b) : IsRows f size w' B A n xs := by
  obtain ⟨es, clock, es', clock', hb, rfl⟩ := k
  refine ⟨h.1, fun hn => ?_⟩
  obtain ⟨g, off, e, hg, hc⟩ := h.2 hn
  refine ⟨g, off, e, hg, fun i x j u hx hu => ?_⟩
  have h0 := hc i x j u hx hu
  have hne : g ≠ b := fun e => by
    subst e
    unfold World.cell? at h0
    simp only [hb] at h0
    cases h0
  exact (World.cell?_of_block (w := w) (a := ⟨g, off + (i * size + j), none⟩) (ChangeMaps.heap_setBlock_other hb _ hne)).trans h0
theorem RuleAt.turned {B : Nat} {x : VRule} (h : RuleAt w B x) (k : w.mapTurned w' b) : RuleAt w' B x := ⟨rows_turned h.f k, rows_turned h.p k, rows_turned h.e k⟩
theorem CfgAt.turned {B : Nat} {x : VCfg} (h : CfgAt w B x) (k : w.mapTurned w' b) : CfgAt w' B x := ⟨rows_turned h.rows k, fun r hr => ⟨(h.each r hr).1.turned k, (h.each r hr).2⟩, h.len⟩
theorem blk_turned {g : Nat} {t : TypeId} {cs : Array Value} (h : Blk w g t cs) (k : w.mapTurned w' b) : Blk w' g t cs := by
  obtain ⟨es, clock, es', clock', hb, rfl⟩ := k
  have hne : g ≠ b := fun e => by
    subst e
    unfold Blk at h
    rw [hb] at h
    cases h
  unfold Blk at h ⊢
  rw [ChangeMaps.heap_setBlock_other hb _ hne]; exact h
theorem turned_aw (k : w.mapTurned w' b) : Aw [b] w w' := by
  have g := k.grown
  exact ⟨g.os, g.tape, g.output, g.size, fun i hi hn => g.block i hi (fun e => hn (by injection e with e; simp [e]))⟩
end
/-- The configuration of a tenant; all noughts: there is none. -/
def lookB (m : Bk) (k : List UInt8) : VCfg := (lookKV m k).getD cfg0
theorem wpList_lookup_cfg {ops : Array Oper} {rest : List Oper} {o : Oper} {a : Act} {Q : Exit → Act → World → Prop} (w : World)
    (hg : o.guard = none) (mo xo : Operand) (hop : o.op = Op.lookup 66 mo xo true) (b : Nat) (m : Bk)
    (hm : a.eval mo = .map (some b)) (hown : w.ownsMap Try.prog 9 heldE b m.length (dKV VCfg.val m)) (s : ByteArray) (hs : s.size ≤ maxLen) (hx : a.eval xo = .string s) (x : VCfg) (hv : Bool) (hl : lookB m s.data.toList = x) (hh : hasKV m s.data.toList = hv)
    (hK : wpList Try.prog ops Q rest (a.put o.dst (.tuple #[.agg #[.int .i64 x.protos, .int .i64 x.bytes, .int .i64 x.points, .int .i64 x.store, .int .i64 x.mode, .int .i64 x.unit, .slice x.A x.rules.length x.c], .bool hv])) w) :
    wpList Try.prog ops Q (o :: rest) a w :=
  wpList_lookup_own_ok w hg mo xo 66 hop 9 30 cfgLaw Try.underlying66 heldE (zeroCfg w) (.held cfgZ) [] rfl b m.length (dKV VCfg.val m) hm hown _ _ hx (keyT hs) (fun v ps hvv => by
    unfold heldE at hvv
    injection hvv with hvv
    injection hvv with h1 _
    rw [at_dKV] at h1
    injection h1 with h1
    rw [has_dKV, hh, h1]
    have e : ((lookKV m s.data.toList).map VCfg.val).getD cfgZ = x.val := by
      rw [← hl, ← cfg0_val]
      unfold lookB
      cases lookKV m s.data.toList <;> rfl
    rw [e]
    exact hK)
set_option maxHeartbeats 1600000 in
theorem bnew_any (w : World) : Calls Try.prog 8 #[] w fun e w' => e = .returned (.pointer (some ⟨w.heap.size + 1, 0, none⟩)) ∧ BookAt w' (w.heap.size + 1) w.heap.size [] ∧ Below w.heap.size w w' := by
  have hmm := @run_makeMap Try.prog
  have hz : (w.alloc (.map #[] 0)).heap.size = w.heap.size + 1 := by simp
  have hb := Blk.new (w.alloc (.map #[] 0)) 68 #[.map (some w.heap.size)]
  rw [hz] at hb
  have hm := (World.ownsMap_made w Try.prog 9 heldE).alloc (.cells #[.map (some w.heap.size)] 68)
  have hbl : Below w.heap.size w ((w.alloc (.map #[] 0)).alloc (.cells #[.map (some w.heap.size)] 68)) := bl_alloc (bl_alloc (Below.refl _ _) _) _
  go_enter Try.func8, Try.ntmps8
  go_wp2_with fail
  go_ret
  exact ⟨by simp, ⟨hb, hm, List.Pairwise.nil, by simp⟩, hbl⟩
set_option maxRecDepth 100000 in
set_option maxHeartbeats 3200000 in
theorem bdrop_any (p b : Nat) (m : Bk) (s : ByteArray) (w : World) (h : BookAt w p b m) (hs : s.size ≤ maxLen) :
    Calls Try.prog 13 #[.pointer (some ⟨p, 0, none⟩), .string s] w fun e w' => e = .returned (.int .i64 (if hasKV m s.data.toList then 0 else 18)) ∧ BookAt w' p b (delKV m s.data.toList) ∧ Aw [b] w w' := by
  have c0 := (Blk.cell h.blk 0).trans rfl
  have hlt := Blk.lt h.blk
  obtain ⟨x, hx⟩ : ∃ x, lookB m s.data.toList = x := ⟨_, rfl⟩
  obtain ⟨hv, hh⟩ : ∃ hv, hasKV m s.data.toList = hv := ⟨_, rfl⟩
  have hA := (Aw.refl [] w).alloc (.cells #[.int .i64 x.protos, .int .i64 x.bytes, .int .i64 x.points, .int .i64 x.store, .int .i64 x.mode, .int .i64 x.unit, .slice x.A x.rules.length x.c] 30)
  have HK := Lib.hid (keyT hs)
  rw [hh]
  go_enter Try.func13, Try.ntmps13
  go_upto_region 2 with (at_lookup; refine wpList_lookup_cfg _ rfl _ _ rfl b m rfl h.own s hs rfl x hv hx hh ?_)
  have h2 := h.alloc (.cells #[.int .i64 x.protos, .int .i64 x.bytes, .int .i64 x.points, .int .i64 x.store, .int .i64 x.mode, .int .i64 x.unit, .slice x.A x.rules.length x.c] 30)
  generalize w.alloc (.cells #[.int .i64 x.protos, .int .i64 x.bytes, .int .i64 x.points, .int .i64 x.store, .int .i64 x.mode, .int .i64 x.unit, .slice x.A x.rules.length x.c] 30) = W at *
  have hA2 : Aw [b] w W := hA.mono (by simp)
  have c1 := (Blk.cell h2.blk 0).trans rfl
  clear hA c0 h
  cases hv
  · have hN := delKV_none hh
    go_wp2_with fail
    go_ret
    exact ⟨rfl, by first | exact h2 | (rw [hN]; exact h2), hA2⟩
  · go_wp2_with (at_delete; refine wpList_delete_own _ rfl _ _ 66 9 rfl 30 cfgLaw Try.underlying66 heldE b m.length (dKV VCfg.val m) rfl h2.own _ _ rfl HK.out ?_; intro w1 hown1 hturn1)
    go_ret
    rw [del_dKV] at hown1
    have ho := ownsMap_tight hown1
    rw [size_dKV] at ho
    exact ⟨rfl, ⟨blk_turned h2.blk hturn1, ho, h2.up.del _, fun y hy => ((h2.cfg y (List.mem_filter.1 hy).1).turned hturn1).more (turned_aw hturn1).size⟩, hA2.trans (turned_aw hturn1)⟩
/-! ### Get -/
set_option maxRecDepth 100000 in
set_option maxHeartbeats 3200000 in
theorem bget_any (p b : Nat) (m : Bk) (s : ByteArray) (w : World) (h : BookAt w p b m) (hs : s.size ≤ maxLen) (x : VCfg) (hx : lookB m s.data.toList = x) (hv : Bool) (hh : hasKV m s.data.toList = hv) :
    Calls Try.prog 18 #[.pointer (some ⟨p, 0, none⟩), .string s] w fun e w' => (∃ A c qs, e = .returned (.tuple #[.agg #[.int .i64 x.protos, .int .i64 x.bytes, .int .i64 x.points, .int .i64 x.store, .int .i64 x.mode, .int .i64 x.unit, .slice A x.rules.length c], .bool hv]) ∧ qs.map VRule.rule = x.rules.map VRule.rule ∧ OwnRules w.heap.size w' (.slice A x.rules.length c) qs) ∧ Below w.heap.size w w' := by
  have hcx : CfgAt w w.heap.size x := by
    rw [← hx]
    unfold lookB lookKV
    cases hf : m.find? (keyIs s.data.toList) with
    | none => exact ⟨IsRows.nil_, (by intro r hr; cases hr), Nat.zero_le _⟩
    | some y => exact h.cfg y (List.mem_of_find?_eq_some hf)
  have hz : (w.alloc (.cells #[.int .i64 0, .int .i64 0, .int .i64 0, .int .i64 0, .int .i64 0, .int .i64 0, .slice none 0 0] 30)).heap.size = w.heap.size + 1 := by simp
  have hb1 := Blk.alloc (Blk.new w 30 #[.int .i64 0, .int .i64 0, .int .i64 0, .int .i64 0, .int .i64 0, .int .i64 0, .slice none 0 0]) (.cells #[.int .i64 x.protos, .int .i64 x.bytes, .int .i64 x.points, .int .i64 x.store, .int .i64 x.mode, .int .i64 x.unit, .slice x.A x.rules.length x.c] 30)
  have hb2 := Blk.new (w.alloc (.cells #[.int .i64 0, .int .i64 0, .int .i64 0, .int .i64 0, .int .i64 0, .int .i64 0, .slice none 0 0] 30)) 30 #[.int .i64 x.protos, .int .i64 x.bytes, .int .i64 x.points, .int .i64 x.store, .int .i64 x.mode, .int .i64 x.unit, .slice x.A x.rules.length x.c]
  rw [hz] at hb2
  have hbl : Below w.heap.size w ((w.alloc (.cells #[.int .i64 0, .int .i64 0, .int .i64 0, .int .i64 0, .int .i64 0, .int .i64 0, .slice none 0 0] 30)).alloc (.cells #[.int .i64 x.protos, .int .i64 x.bytes, .int .i64 x.points, .int .i64 x.store, .int .i64 x.mode, .int .i64 x.unit, .slice x.A x.rules.length x.c] 30)) := bl_alloc (bl_alloc (Below.refl _ _) _) _
  have h1 := h.alloc (.cells #[.int .i64 0, .int .i64 0, .int .i64 0, .int .i64 0, .int .i64 0, .int .i64 0, .slice none 0 0] 30)
  have c0 := (Blk.cell h1.blk 0).trans rfl
  have hlt := Blk.lt h.blk
  go_enter Try.func18, Try.ntmps18
  go_upto_region 2 with (at_lookup; refine wpList_lookup_cfg _ rfl _ _ rfl b m rfl h1.own s hs rfl x hv hx hh ?_)
  have kC := copied_any x _ (hcx.bel hbl)
  have hsz := hbl.size
  generalize ((w.alloc (.cells #[.int .i64 0, .int .i64 0, .int .i64 0, .int .i64 0, .int .i64 0, .int .i64 0, .slice none 0 0] 30)).alloc (.cells #[.int .i64 x.protos, .int .i64 x.bytes, .int .i64 x.points, .int .i64 x.store, .int .i64 x.mode, .int .i64 x.unit, .slice x.A x.rules.length x.c] 30)) = W at *
  generalize hbz : w.heap.size = g at *
  have q0 := (Blk.cell hb2 0).trans rfl; have q1 := (Blk.cell hb2 1).trans rfl; have q2 := (Blk.cell hb2 2).trans rfl; have q3 := (Blk.cell hb2 3).trans rfl; have q4 := (Blk.cell hb2 4).trans rfl; have q5 := (Blk.cell hb2 5).trans rfl; have q6 := (Blk.cell hb2 6).trans rfl
  have l1 := Blk.lt hb1
  clear h1 c0 hx hh h hcx hz
  go_wp2_with (go_at_call 24; (with_reducible refine kC.mono ?_); rintro en w1 ⟨⟨A, cc, qs, rfl, hQ, hO⟩, hbw⟩; have hb21 := Blk.below hb1 hbw l1; have d0 := (Blk.cell hb21 0).trans rfl; have d1 := (Blk.cell hb21 1).trans rfl; have d2 := (Blk.cell hb21 2).trans rfl; have d3 := (Blk.cell hb21 3).trans rfl; have d4 := (Blk.cell hb21 4).trans rfl; have d5 := (Blk.cell hb21 5).trans rfl; have d6 := (Blk.cell hb21 6).trans rfl; have g0 := Blk.frozen hb21 0; have g1 := Blk.frozen hb21 1; have g2 := Blk.frozen hb21 2; have g3 := Blk.frozen hb21 3; have g4 := Blk.frozen hb21 4; have g5 := Blk.frozen hb21 5; have g6 := Blk.frozen hb21 6)
  have hA9 := ((((((((Aw.refl [g] w1).setCell (p := ⟨g, 0, none⟩) (.inl (by simp)) (.int .i64 x.protos)).setCell (p := ⟨g, 1, none⟩) (.inl (by simp)) (.int .i64 x.bytes)).setCell (p := ⟨g, 2, none⟩) (.inl (by simp)) (.int .i64 x.points)).setCell (p := ⟨g, 3, none⟩) (.inl (by simp)) (.int .i64 x.store)).setCell (p := ⟨g, 4, none⟩) (.inl (by simp)) (.int .i64 x.mode)).setCell (p := ⟨g, 5, none⟩) (.inl (by simp)) (.int .i64 x.unit)).setCell (p := ⟨g, 6, none⟩) (.inl (by simp)) (.slice A x.rules.length cc))
  refine bodyPost_ret (v := .tuple #[.agg #[.int .i64 x.protos, .int .i64 x.bytes, .int .i64 x.points, .int .i64 x.store, .int .i64 x.mode, .int .i64 x.unit, .slice A x.rules.length cc], .bool hv]) (by simp [results, Try.results18, go_sem, d0, d1, d2, d3, d4, d5, d6]) rfl ⟨⟨A, cc, qs, rfl, hQ, (hO.aw hA9 (fun i hi => by simp at hi; omega)).low (by omega)⟩, ?_⟩
  rw [hbz]
  exact (hbl.trans (hbw.mono (by omega))).trans (hA9.bel_of (fun k hk => by simp at hk; omega) (by have := hbw.size; omega))
end Go.Proofs.Ytjffagffjcbolaa
