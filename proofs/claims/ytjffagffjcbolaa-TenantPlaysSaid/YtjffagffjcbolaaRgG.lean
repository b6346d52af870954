/- The walk of the reference's Own. -/
import Derived.Test.YtjffagffjcbolaaRgF
import Derived.Test.YtjffagffjcbolaaAppAny
namespace Go.Proofs.Ytjffagffjcbolaa
set_option linter.unusedVariables false
set_option linter.unusedSimpArgs false
open Go.RowKit
section
variable {P : Program} (w : World)
theorem step_append_new {ops : Array Oper} {o : Oper} {a : Act} {K : Act → World → Prop} {Q : Exit → Act → World → Prop} {E : Prop} (hgd : o.guard = none) (x : Operand) (t : TypeId)
    (ho : o.op = .call { callee := .builtin .append, args := #[.const (.slice none 0 0), x], argTypes := #[t, t] })
    (e : TypeId) (i : TypeInfo) (z : Value) (size bytes : Nat) (ht : P.underlying t = some (.slice e)) (hi : P.info? e = some i) (hz : i.zero = some z)
    (hsize : i.size = size) (hby : i.bytes = bytes) (hzs : z.cells.size = size) (hsz : 0 < size)
    (B : Nat) (A : Option Addr) (m c : Nat) (news : List Value) (hx : a.eval x = .slice A m c) (hr : Reads w B size A m news) (h1 : ∀ u ∈ news, u.oneCell' = true)
    (h63 : m ≤ maxLen) (hbytes : m * bytes ≤ 140737488355328)
    (h : ∀ v' w', w'.ownsRow w.heap.size e size v' m news → Below w.heap.size w w' → K (a.put o.dst v') w') :
    if Region.wanted o (yielded ops a.tmps) = true then Oper.wp P o a w K Q else E :=
  step_append_any w hgd (.const (.slice none 0 0)) x t ho w.heap.size e i z size bytes ht hi hz hsize hby hzs hsz (.slice none 0 0) 0 [] rfl (World.ownsRow_nil _ _ _ _) B A m c news hx hr h1 (by simpa using h63) (by simpa using hbytes) (Nat.le_refl _)
    (fun v' w' hown hg _ => h v' w' (by simpa using hown) (Below.grown (Below.refl _ _) hg (Nat.le_refl _) (by simp [Value.ownBlock])))
end
theorem CS.rr {w0 w : World} {tb : Nat} {X : VRule} (h : CS w0 w tb X) : RuleAt w w0.heap.size X := h.r
set_option maxRecDepth 100000 in
set_option maxHeartbeats 12800000 in
theorem rown_any (x : VCfg) (w : World) (h : CfgAt w w.heap.size x) :
    Calls Try.prog 26 #[.agg #[.int .i64 x.protos, .int .i64 x.bytes, .int .i64 x.points, .int .i64 x.store, .int .i64 x.mode, .int .i64 x.unit, .slice x.A x.rules.length x.c]] w fun e w' => (∃ A c qs, e = .returned (.agg #[.int .i64 x.protos, .int .i64 x.bytes, .int .i64 x.points, .int .i64 x.store, .int .i64 x.mode, .int .i64 x.unit, .slice A x.rules.length c]) ∧ qs.map VRule.rule = x.rules.map VRule.rule ∧ OwnRules w.heap.size w' (.slice A x.rules.length c) qs) ∧ Below w.heap.size w w' := by
  obtain ⟨i0, hi0, hz0, hz1, hz2⟩ := info_parts Try.infoRule
  have hu : Try.prog.underlying 28 = some (.slice 63) := by kernel_rfl
  obtain ⟨k0, hk0i, hkz0, hkz1, hkz2⟩ := info_parts Try.infoString
  have hus : Try.prog.underlying 42 = some (.slice 9) := by kernel_rfl
  obtain ⟨l0, hl0i, hlz0, hlz1, hlz2⟩ := info_parts Try.infoLabel
  have hul : Try.prog.underlying 61 = some (.slice 88) := by kernel_rfl
  have hz : (w.alloc (.cells #[.int .i64 x.protos, .int .i64 x.bytes, .int .i64 x.points, .int .i64 x.store, .int .i64 x.mode, .int .i64 x.unit, .slice x.A x.rules.length x.c] 30)).heap.size = w.heap.size + 1 := by simp
  have hb1 := Blk.alloc (Blk.new w 30 #[.int .i64 x.protos, .int .i64 x.bytes, .int .i64 x.points, .int .i64 x.store, .int .i64 x.mode, .int .i64 x.unit, .slice x.A x.rules.length x.c]) (.cells #[.int .i64 0, .int .i64 0, .int .i64 0, .int .i64 0, .int .i64 0, .int .i64 0, .slice none 0 0] 30)
  have hb2 := Blk.new (w.alloc (.cells #[.int .i64 x.protos, .int .i64 x.bytes, .int .i64 x.points, .int .i64 x.store, .int .i64 x.mode, .int .i64 x.unit, .slice x.A x.rules.length x.c] 30)) 30 #[.int .i64 0, .int .i64 0, .int .i64 0, .int .i64 0, .int .i64 0, .int .i64 0, .slice none 0 0]
  rw [hz] at hb2
  have hbl : Below w.heap.size w ((w.alloc (.cells #[.int .i64 x.protos, .int .i64 x.bytes, .int .i64 x.points, .int .i64 x.store, .int .i64 x.mode, .int .i64 x.unit, .slice x.A x.rules.length x.c] 30)).alloc (.cells #[.int .i64 0, .int .i64 0, .int .i64 0, .int .i64 0, .int .i64 0, .int .i64 0, .slice none 0 0] 30)) := bl_alloc (bl_alloc (Below.refl _ _) _) _
  go_enter Try.func26, Try.ntmps26
  go_upto_region 1 with (fail)
  have hcf := h.below hbl
  have hll := h.rows.1
  have HL := Lib.hid hcf.each
  have hrw := hcf.rows
  have hn := h.len
  clear h hz
  have hsz : ((w.alloc (.cells #[.int .i64 x.protos, .int .i64 x.bytes, .int .i64 x.points, .int .i64 x.store, .int .i64 x.mode, .int .i64 x.unit, .slice x.A x.rules.length x.c] 30)).alloc (.cells #[.int .i64 0, .int .i64 0, .int .i64 0, .int .i64 0, .int .i64 0, .int .i64 0, .slice none 0 0] 30)).heap.size = w.heap.size + 2 := by simp
  generalize ((w.alloc (.cells #[.int .i64 x.protos, .int .i64 x.bytes, .int .i64 x.points, .int .i64 x.store, .int .i64 x.mode, .int .i64 x.unit, .slice x.A x.rules.length x.c] 30)).alloc (.cells #[.int .i64 0, .int .i64 0, .int .i64 0, .int .i64 0, .int .i64 0, .int .i64 0, .slice none 0 0] 30)) = W at *
  generalize hbz : w.heap.size = b at *
  have c6 := (Blk.cell hb1 6).trans rfl
  clear hcf
  go_upto_region 3 with (fail)
  go_loopw [3, 4] (fun ov i wr => Below W.heap.size W wr ∧ ∃ (k : Nat) (qs : List VRule) (u : Value), u = ov ∧ k ≤ x.rules.length ∧ i = .int .i64 k ∧ qs.length = k ∧ Hid (qs.map VRule.rule = (x.rules.take k).map VRule.rule) ∧ OwnRules W.heap.size wr u qs) (fun _ i _ => x.rules.length - (intOf i).toNat)
  case atStart => exact ⟨Below.refl _ _, 0, [], _, rfl, by omega, rfl, rfl, Lib.hid rfl, OwnRules.nil_⟩
  case round =>
    obtain ⟨hbw, k, qs, ov, rfl, hk, rfl, hql, HQ, hO⟩ := hrel
    by_cases hlt : k < x.rules.length
    · have hd : decide ((k : Int) < (x.rules.length : Int)) = true := decide_eq_true (by omega)
      have hk0 : (0 : Int) ≤ k := by omega
      have hk1 : (k : Int) < (x.rules.length : Int) := by omega
      obtain ⟨bb, off, hA, hb, hcs⟩ := ((hrw.more (by omega : b ≤ W.heap.size)).below hbw).2 (by omega)
      obtain ⟨X, hX⟩ : ∃ X, x.rules[k]? = some X := ⟨_, List.getElem?_eq_getElem (by omega)⟩
      have q0 : wr.cell? ⟨bb, off + k * 3, none⟩ = some (.slice X.fA X.rule.filter.length X.fC) := hcs k X 0 _ hX rfl
      have q1 : wr.cell? ⟨bb, off + k * 3 + 1, none⟩ = some (.slice X.pA X.rule.parts.length X.pC) := hcs k X 1 _ hX rfl
      have q2 : wr.cell? ⟨bb, off + k * 3 + 2, none⟩ = some (.slice X.eA X.rule.extra.length X.eC) := hcs k X 2 _ hX rfl
      obtain ⟨hra, hok⟩ := HL.out X (List.mem_of_getElem? hX)
      have hbt : Below W.heap.size W (wr.alloc (.cells #[.slice X.fA X.rule.filter.length X.fC, .slice X.pA X.rule.parts.length X.pC, .slice X.eA X.rule.extra.length X.eC] 63)) := bl_alloc hbw _
      have hCS : CS W (wr.alloc (.cells #[.slice X.fA X.rule.filter.length X.fC, .slice X.pA X.rule.parts.length X.pC, .slice X.eA X.rule.extra.length X.eC] 63)) wr.heap.size X :=
        ⟨Blk.new wr _ _, (hra.more (by omega)).below hbt, hbt⟩
      have hov : ∀ j, ov.ownBlock = some j → j < wr.heap.size := fun j e => (hO.own.lt j e).2
      replace hO := hO.bel ((Below.refl wr.heap.size wr).alloc (Nat.le_refl _) (.cells #[.slice X.fA X.rule.filter.length X.fC, .slice X.pA X.rule.parts.length X.pC, .slice X.eA X.rule.extra.length X.eC] 63))
      have hf := hok.f.1
      have hp := hok.p.1
      have he := hok.e.1
      have htk : x.rules.take (k + 1) = x.rules.take k ++ [X] := by rw [List.take_add_one, hX]; rfl
      have HN : ∀ q : VRule, q.rule = X.rule → Hid ((qs ++ [q]).map VRule.rule = (x.rules.take (k + 1)).map VRule.rule) := fun q hq => Lib.hid (by rw [htk, List.map_append, List.map_append, HQ.out]; simp [hq])
      have hA' := Lib.hid hA
      rw [hA] at hb1 c6 ⊢
      have c6r := (Blk.cell (hb1.below hbw (by omega)) 6).trans rfl
      clear hcs hX HQ htk hra hok hbt
      go_upto_region 6 with (fail)
      have hwt : wr.heap.size < (wr.alloc (.cells #[.slice X.fA X.rule.filter.length X.fC, .slice X.pA X.rule.parts.length X.pC, .slice X.eA X.rule.extra.length X.eC] 63)).heap.size := by simp
      clear q0 q1 q2
      generalize wr.alloc (.cells #[.slice X.fA X.rule.filter.length X.fC, .slice X.pA X.rule.parts.length X.pC, .slice X.eA X.rule.extra.length X.eC] 63) = Wt at *
      generalize wr.heap.size = tb at *
      go_region_held3 (fun w' => (w'.cell? ⟨tb, 0, none⟩ = some (.slice X.fA X.rule.filter.length X.fC) ∧ w'.cell? ⟨tb, 1, none⟩ = some (.slice X.pA X.rule.parts.length X.pC) ∧ w'.cell? ⟨tb, 2, none⟩ = some (.slice X.eA X.rule.extra.length X.eC)) ∧ CS W w' tb X) (first | (with_reducible assumption) | (with_reducible exact hCS.fs) | (with_reducible exact hCS.drew.fs) | (with_reducible exact (CS.drew (And.right (by with_reducible assumption))).fs) | (with_reducible exact (CS.alloc (And.right (by with_reducible assumption)) _).fs)) (first
        | (refine step_append_new _ (by rfl) (.tmp 20) _ (by rfl) 9 k0 _ 1 16 hus hk0i hkz0 hkz1 hkz2 rfl (by omega) W.heap.size X.fA X.rule.filter.length _ (X.rule.filter.flatMap strCell) (by rfl) (strs_reads (CS.rr (And.right (by with_reducible assumption))).f) (strs_one _) (by simp [maxLen]; omega) (by omega) ?_; intro fv w5 hoF hbF; obtain ⟨AF, CF, rfl⟩ := own_form hoF; have S5 := (CS.call (And.right (by with_reducible assumption)) hbF).fs; replace hO := OwnRules.belh hO hbF rfl; (try (replace hoP := own_belh hoP hbF rfl)); (try (replace hoE := own_belh hoE hbF rfl)))
        | (refine step_append_new _ (by rfl) (.tmp 23) _ (by rfl) 9 k0 _ 1 16 hus hk0i hkz0 hkz1 hkz2 rfl (by omega) W.heap.size X.pA X.rule.parts.length _ (X.rule.parts.flatMap strCell) (by rfl) (strs_reads (CS.rr (And.right (by with_reducible assumption))).p) (strs_one _) (by simp [maxLen]; omega) (by omega) ?_; intro pv w6 hoP hbP; obtain ⟨AP, CP, rfl⟩ := own_form hoP; have S6 := (CS.call (And.right (by with_reducible assumption)) hbP).fs; replace hO := OwnRules.belh hO hbP rfl; (try (replace hoF := own_belh hoF hbP rfl)); (try (replace hoE := own_belh hoE hbP rfl)))
        | (refine step_append_new _ (by rfl) (.tmp 26) _ (by rfl) 88 l0 _ 2 32 hul hl0i hlz0 hlz1 hlz2 rfl (by omega) W.heap.size X.eA X.rule.extra.length _ (X.rule.extra.flatMap labCell) (by rfl) (labs_reads (CS.rr (And.right (by with_reducible assumption))).e) (labs_one _) (by simp [maxLen]; omega) (by omega) ?_; intro ev w7 hoE hbE; obtain ⟨AE, CE, rfl⟩ := own_form hoE; have S7 := (CS.call (And.right (by with_reducible assumption)) hbE).fs; replace hO := OwnRules.belh hO hbE rfl; (try (replace hoF := own_belh hoF hbE rfl)); (try (replace hoP := own_belh hoP hbE rfl)))
        | (refine step_append_lies _ (by rfl) _ _ _ (by rfl) W.heap.size 63 i0 _ 3 72 hu hi0 hz0 hz1 hz2 rfl (by omega) ov qs.length (qs.flatMap ruleC) (by rfl) (by first | exact hO.own.alloc _ | exact (hO.own.alloc _).drew | exact hO.own.drew.alloc _ | exact (hO.own.drew.alloc _).drew) ⟨w5.heap.size, 0, none⟩ 1 1 (ruleC ⟨X.rule, AF, CF, AP, CP, AE, CE⟩) (by rfl) (by rfl) (World.news_of_block (heap_alloc_new w5 _)) (by simp [ruleC, Value.oneCell']) (by omega) (by simp [maxLen]; omega) (by omega) (CS.l (And.right (by with_reducible assumption))).size (w5.heap.size + 1) (by simp) ?_; intro gg capg w9 hown9 hgrow hat hlt9; have hST : CS W _ tb X := (And.right (by with_reducible assumption)); have S9 := (CS.grown hST hgrow (fun j e => (hO.own.lt j e).1) (fun e => absurd (hov _ e) (Nat.lt_irrefl _))).fs) | (refine step_append_lies _ (by rfl) _ _ _ (by rfl) W.heap.size 63 i0 _ 3 72 hu hi0 hz0 hz1 hz2 rfl (by omega) ov qs.length (qs.flatMap ruleC) (by rfl) (by first | exact hO.own.alloc _ | exact (hO.own.alloc _).drew | exact hO.own.drew.alloc _ | exact (hO.own.drew.alloc _).drew) ⟨w6.heap.size, 0, none⟩ 1 1 (ruleC ⟨X.rule, AF, CF, AP, CP, AE, CE⟩) (by rfl) (by rfl) (World.news_of_block (heap_alloc_new w6 _)) (by simp [ruleC, Value.oneCell']) (by omega) (by simp [maxLen]; omega) (by omega) (CS.l (And.right (by with_reducible assumption))).size (w6.heap.size + 1) (by simp) ?_; intro gg capg w9 hown9 hgrow hat hlt9; have hST : CS W _ tb X := (And.right (by with_reducible assumption)); have S9 := (CS.grown hST hgrow (fun j e => (hO.own.lt j e).1) (fun e => absurd (hov _ e) (Nat.lt_irrefl _))).fs) | (refine step_append_lies _ (by rfl) _ _ _ (by rfl) W.heap.size 63 i0 _ 3 72 hu hi0 hz0 hz1 hz2 rfl (by omega) ov qs.length (qs.flatMap ruleC) (by rfl) (by first | exact hO.own.alloc _ | exact (hO.own.alloc _).drew | exact hO.own.drew.alloc _ | exact (hO.own.drew.alloc _).drew) ⟨w7.heap.size, 0, none⟩ 1 1 (ruleC ⟨X.rule, AF, CF, AP, CP, AE, CE⟩) (by rfl) (by rfl) (World.news_of_block (heap_alloc_new w7 _)) (by simp [ruleC, Value.oneCell']) (by omega) (by simp [maxLen]; omega) (by omega) (CS.l (And.right (by with_reducible assumption))).size (w7.heap.size + 1) (by simp) ?_; intro gg capg w9 hown9 hgrow hat hlt9; have hST : CS W _ tb X := (And.right (by with_reducible assumption)); have S9 := (CS.grown hST hgrow (fun j e => (hO.own.lt j e).1) (fun e => absurd (hov _ e) (Nat.lt_irrefl _))).fs))
      all_goals
        rename_i hHeld
        obtain ⟨_, hY⟩ := hHeld
        go_wp2_with fail
        have z5 := (And.right S5).l.size
        have z6 := (And.right S6).l.size
        have z7 := (And.right S7).l.size
        have z0 := hCS.l.size
        have zd : Wt.drew.heap.size = Wt.heap.size := rfl
        have hO4 := OwnRules.grow (y := ⟨X.rule, AF, CF, AP, CP, AE, CE⟩) (hO.bel ((Below.refl _ w7).alloc (Nat.le_refl _) _)) ⟨(own_low hoF (by omega)).alloc _, (own_low hoP (by omega)).alloc _, (own_low hoE (by omega)).alloc _⟩ hgrow hown9
        exact ⟨⟨hY.l, k + 1, qs ++ [⟨X.rule, AF, CF, AP, CP, AE, CE⟩], _, rfl, by omega, rfl, by simp [hql], HN _ rfl, by rw [hql] at hO4; exact hO4⟩, by (simp only [intOf]; omega)⟩
    · have hd : decide ((k : Int) < (x.rules.length : Int)) = false := decide_eq_false (by omega)
      obtain rfl : k = x.rules.length := by omega
      have hQ := HQ.out
      rw [List.take_of_length_le (Nat.le_refl _)] at hQ
      clear HQ HL
      obtain ⟨oA, oc, rfl⟩ := own_form hO.own
      rw [hql] at hO ⊢
      have hb11 := hb1.below hbw (by omega)
      have hb21 := hb2.below hbw (by omega)
      have f6 := Blk.frozen hb11 6
      have e6 := (Blk.cell hb11 6).trans rfl
      have hb12 := Blk.set_ hb11 6 (.slice oA x.rules.length oc)
      have hb22 := Blk.far hb21 (p := ⟨b, 6, none⟩) (by simp) (.slice oA x.rules.length oc)
      have hA6 := (Aw.refl [b] wr).setCell (p := ⟨b, 6, none⟩) (.inl (by simp)) (.slice oA x.rules.length oc)
      go_upto_region 8 with (fail)
      generalize wr.setCell ⟨b, 6, none⟩ (.slice oA x.rules.length oc) = w2 at *
      have q0 := (Blk.cell hb12 0).trans rfl; have q1 := (Blk.cell hb12 1).trans rfl; have q2 := (Blk.cell hb12 2).trans rfl; have q3 := (Blk.cell hb12 3).trans rfl; have q4 := (Blk.cell hb12 4).trans rfl; have q5 := (Blk.cell hb12 5).trans rfl; have q6 := (Blk.cell hb12 6).trans rfl
      have d0 := (Blk.cell hb22 0).trans rfl; have d1 := (Blk.cell hb22 1).trans rfl; have d2 := (Blk.cell hb22 2).trans rfl; have d3 := (Blk.cell hb22 3).trans rfl; have d4 := (Blk.cell hb22 4).trans rfl; have d5 := (Blk.cell hb22 5).trans rfl; have d6 := (Blk.cell hb22 6).trans rfl
      have g0 := Blk.frozen hb22 0; have g1 := Blk.frozen hb22 1; have g2 := Blk.frozen hb22 2; have g3 := Blk.frozen hb22 3; have g4 := Blk.frozen hb22 4; have g5 := Blk.frozen hb22 5; have g6 := Blk.frozen hb22 6
      go_wp2_with fail
      have hA9 := ((((((((Aw.refl [b + 1] w2).setCell (p := ⟨b + 1, 0, none⟩) (.inl (by simp)) (.int .i64 x.protos)).setCell (p := ⟨b + 1, 1, none⟩) (.inl (by simp)) (.int .i64 x.bytes)).setCell (p := ⟨b + 1, 2, none⟩) (.inl (by simp)) (.int .i64 x.points)).setCell (p := ⟨b + 1, 3, none⟩) (.inl (by simp)) (.int .i64 x.store)).setCell (p := ⟨b + 1, 4, none⟩) (.inl (by simp)) (.int .i64 x.mode)).setCell (p := ⟨b + 1, 5, none⟩) (.inl (by simp)) (.int .i64 x.unit)).setCell (p := ⟨b + 1, 6, none⟩) (.inl (by simp)) (.slice oA x.rules.length oc))
      refine bodyPost_ret (v := .agg #[.int .i64 x.protos, .int .i64 x.bytes, .int .i64 x.points, .int .i64 x.store, .int .i64 x.mode, .int .i64 x.unit, .slice oA x.rules.length oc]) (by simp [results, Try.results26, go_sem, d0, d1, d2, d3, d4, d5, d6]) rfl ⟨⟨oA, oc, qs, rfl, hQ, ((hO.aw hA6 (fun i hi => by simp at hi; omega)).aw hA9 (fun i hi => by simp at hi; omega)).low (by omega)⟩, ?_⟩
      rw [hbz]
      exact ((hbl.trans (hbw.mono (by omega))).trans (hA6.bel_of (fun k hk => by simp at hk; omega) (by have := hbw.size; omega))).trans (hA9.bel_of (fun k hk => by simp at hk; omega) (by have := hA6.size; have := hbw.size; omega))
end Go.Proofs.Ytjffagffjcbolaa
