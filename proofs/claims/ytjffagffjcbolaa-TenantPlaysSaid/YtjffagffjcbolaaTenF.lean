/- Tenants: putting one into the book: the walk of Add. -/
import Derived.Test.YtjffagffjcbolaaTenE
namespace Go.Proofs.Ytjffagffjcbolaa
set_option linter.unusedVariables false
set_option linter.unusedSimpArgs false
open Go.RowKit
/-- What Add answers. -/
def addE (m : Bk) (k : List UInt8) (c : VCfg) : Nat := if !(tnameB k) || !(cfgB c) then 19 else if hasKV m k then 18 else if 5 ≤ m.length then 14 else 0
/-- A configuration put into a map. -/
theorem store_cfg {w : World} {b : Nat} {m : Bk} (hown : w.ownsMap Try.prog 9 heldE b m.length (dKV VCfg.val m)) (hn : m.length < maxLen) (s : ByteArray) (hs : s.size ≤ maxLen) (c : VCfg) (A : Option Addr) (cc : Nat) (qs : List VRule) (hq : c.rules.length = qs.length) :
    ∃ w', (Instr.mapUpdate 66 (.map (some b)) (.string s) (.agg #[.int .i64 c.protos, .int .i64 c.bytes, .int .i64 c.points, .int .i64 c.store, .int .i64 c.mode, .int .i64 c.unit, .slice A c.rules.length cc])).run Try.prog w = .ok () w' ∧ w'.ownsMap Try.prog 9 heldE b (m.length + 1) (dKV VCfg.val (putKV m s.data.toList ⟨c.protos, c.bytes, c.points, c.store, c.mode, c.unit, A, cc, qs⟩)) ∧ w.mapTurned w' b := by
  obtain ⟨w', hrun, r1, r2⟩ := hown.store cfgLaw Try.underlying66 hn (keyT hs) (val := (VCfg.mk c.protos c.bytes c.points c.store c.mode c.unit A cc qs).val) (d := .held (VCfg.mk c.protos c.bytes c.points c.store c.mode c.unit A cc qs).val) (ps := []) rfl
  rw [put_dKV] at r1
  refine ⟨w', ?_, r1, r2⟩
  rw [hq]
  exact hrun
/-- What stands while a tenant is put. -/
structure AS (w0 w : World) (p b bx : Nat) (c : VCfg) : Prop where
  pb : Blk w p 68 #[.map (some b)]
  cb : Blk w bx 30 #[.int .i64 c.protos, .int .i64 c.bytes, .int .i64 c.points, .int .i64 c.store, .int .i64 c.mode, .int .i64 c.unit, .slice c.A c.rules.length c.c]
  cf : CfgAt w w0.heap.size c
  aw : Aw [b] w0 w
section
variable {w0 w w' : World} {p b bx : Nat} {c : VCfg}
theorem AS.call (h : AS w0 w p b bx c) (k : Below w.heap.size w w') : AS w0 w' p b bx c := ⟨h.pb.below k (Blk.lt h.pb), h.cb.below k (Blk.lt h.cb), h.cf.below (k.mono h.aw.size), h.aw.trans (Aw.ofBelow k)⟩
theorem AS.drew (h : AS w0 w p b bx c) : AS w0 w.drew p b bx c := h.call (Below.refl _ _).drew
theorem AS.turned (h : AS w0 w p b bx c) (k : w.mapTurned w' b) : AS w0 w' p b bx c := ⟨blk_turned h.pb k, blk_turned h.cb k, h.cf.turned k, h.aw.trans (turned_aw k)⟩
theorem AS.fs (h : AS w0 w p b bx c) : (w.cell? ⟨p, 0, none⟩ = some (.map (some b)) ∧ w.cell? ⟨bx, 0, none⟩ = some (.int .i64 c.protos) ∧ w.cell? ⟨bx, 1, none⟩ = some (.int .i64 c.bytes) ∧ w.cell? ⟨bx, 2, none⟩ = some (.int .i64 c.points) ∧ w.cell? ⟨bx, 3, none⟩ = some (.int .i64 c.store) ∧ w.cell? ⟨bx, 4, none⟩ = some (.int .i64 c.mode) ∧ w.cell? ⟨bx, 5, none⟩ = some (.int .i64 c.unit) ∧ w.cell? ⟨bx, 6, none⟩ = some (.slice c.A c.rules.length c.c)) ∧ AS w0 w p b bx c :=
  ⟨⟨(Blk.cell h.pb 0).trans rfl, (Blk.cell h.cb 0).trans rfl, (Blk.cell h.cb 1).trans rfl, (Blk.cell h.cb 2).trans rfl, (Blk.cell h.cb 3).trans rfl, (Blk.cell h.cb 4).trans rfl, (Blk.cell h.cb 5).trans rfl, (Blk.cell h.cb 6).trans rfl⟩, h⟩
end
/-- A configuration like another one, of rows of its own. -/
structure LikeC (c d : VCfg) : Prop where
  protos : d.protos = c.protos
  bytes : d.bytes = c.bytes
  points : d.points = c.points
  store : d.store = c.store
  mode : d.mode = c.mode
  unit : d.unit = c.unit
  rules : d.rules.map VRule.rule = c.rules.map VRule.rule
theorem own_isRows {α : Type} {f : α → List Value} {size : Nat} (hf : ∀ x, (f x).length = size) {w : World} {base : Nat} {e : TypeId} {A : Option Addr} {c n : Nat} {l : List α} (h : w.ownsRow base e size (.slice A n c) n (l.flatMap f)) (hn : l.length = n) : IsRows f size w w.heap.size A n l := by
  obtain ⟨A', c', e, hr⟩ := own_rws hf h hn
  injection e with e1 e2 e3
  subst e1
  exact hr
theorem OwnRule.at {B : Nat} {w : World} {y : VRule} (h : OwnRule B w y) : RuleAt w w.heap.size y := ⟨own_isRows (f := strCell) (fun _ => rfl) h.f rfl, own_isRows (f := strCell) (fun _ => rfl) h.p rfl, own_isRows (f := labCell) (fun _ => rfl) h.e rfl⟩
theorem own_cfg {B : Nat} {w : World} {A : Option Addr} {n cc : Nat} {qs : List VRule} {c : VCfg} {B' : Nat} {w0 : World} (h : OwnRules B w (.slice A n cc) qs) (hn : n = qs.length) (hq : qs.map VRule.rule = c.rules.map VRule.rule) (hc : CfgAt w0 B' c) (d : VCfg) (hd : d.rules = qs ∧ d.A = A) : CfgAt w w.heap.size d := by
  obtain ⟨d1, d2⟩ := hd
  subst hn
  have hl : qs.length = c.rules.length := by have := congrArg List.length hq; simpa using this
  refine ⟨?_, ?_, ?_⟩
  · rw [d1, d2]; exact own_isRows (f := ruleC) (fun _ => rfl) h.own rfl
  · rw [d1]
    intro y hy
    refine ⟨(h.each y hy).at, ?_⟩
    have h1 : y.rule ∈ qs.map VRule.rule := List.mem_map_of_mem hy
    rw [hq] at h1
    obtain ⟨z, hz, e⟩ := List.mem_map.1 h1
    rw [← e]; exact (hc.each z hz).2
  · rw [d1, hl]; exact hc.len
/-- What the book is behind Add. -/
def AddQ (w' : World) (p b : Nat) (m : Bk) (k : List UInt8) (c : VCfg) (E : Nat) : Prop := if E = 0 then ∃ d, LikeC c d ∧ BookAt w' p b (putKV m k d) else BookAt w' p b m
theorem AddQ.no {w' : World} {p b : Nat} {m : Bk} {k : List UInt8} {c : VCfg} {E : Nat} (h : E ≠ 0) (hb : BookAt w' p b m) : AddQ w' p b m k c E := by unfold AddQ; rw [if_neg h]; exact hb
set_option maxRecDepth 100000 in
set_option maxHeartbeats 6400000 in
theorem badd_any (p b : Nat) (m : Bk) (s : ByteArray) (c : VCfg) (w : World) (h : BookAt w p b m) (hs : s.size ≤ 4611686018427387903) (hs2 : s.size ≤ maxLen) (hc : CfgAt w w.heap.size c) (hm5 : m.length ≤ 1000) :
    Calls Try.prog 11 #[.pointer (some ⟨p, 0, none⟩), .string s, .agg #[.int .i64 c.protos, .int .i64 c.bytes, .int .i64 c.points, .int .i64 c.store, .int .i64 c.mode, .int .i64 c.unit, .slice c.A c.rules.length c.c]] w fun e w' => e = .returned (.int .i64 (addE m s.data.toList c : Nat)) ∧ AddQ w' p b m s.data.toList c (addE m s.data.toList c) ∧ Aw [b] w w' := by
  have hpl := Blk.lt h.blk
  obtain ⟨x, hx⟩ : ∃ x, lookB m s.data.toList = x := ⟨_, rfl⟩
  obtain ⟨hv, hh⟩ : ∃ hv, hasKV m s.data.toList = hv := ⟨_, rfl⟩
  have hN := fun W => tenant_any s W (by omega)
  have hz : (w.alloc (.cells #[.int .i64 c.protos, .int .i64 c.bytes, .int .i64 c.points, .int .i64 c.store, .int .i64 c.mode, .int .i64 c.unit, .slice c.A c.rules.length c.c] 30)).heap.size = w.heap.size + 1 := by simp
  have h1 := h.alloc (.cells #[.int .i64 c.protos, .int .i64 c.bytes, .int .i64 c.points, .int .i64 c.store, .int .i64 c.mode, .int .i64 c.unit, .slice c.A c.rules.length c.c] 30)
  have c0 := (Blk.cell h1.blk 0).trans rfl
  have hb1 := Blk.alloc (Blk.new w 30 #[.int .i64 c.protos, .int .i64 c.bytes, .int .i64 c.points, .int .i64 c.store, .int .i64 c.mode, .int .i64 c.unit, .slice c.A c.rules.length c.c]) (.cells #[.int .i64 x.protos, .int .i64 x.bytes, .int .i64 x.points, .int .i64 x.store, .int .i64 x.mode, .int .i64 x.unit, .slice x.A x.rules.length x.c] 30)
  have h2 := h1.alloc (.cells #[.int .i64 x.protos, .int .i64 x.bytes, .int .i64 x.points, .int .i64 x.store, .int .i64 x.mode, .int .i64 x.unit, .slice x.A x.rules.length x.c] 30)
  have hbl : Below w.heap.size w ((w.alloc (.cells #[.int .i64 c.protos, .int .i64 c.bytes, .int .i64 c.points, .int .i64 c.store, .int .i64 c.mode, .int .i64 c.unit, .slice c.A c.rules.length c.c] 30)).alloc (.cells #[.int .i64 x.protos, .int .i64 x.bytes, .int .i64 x.points, .int .i64 x.store, .int .i64 x.mode, .int .i64 x.unit, .slice x.A x.rules.length x.c] 30)) := bl_alloc (bl_alloc (Below.refl _ _) _) _
  have hAS : AS w ((w.alloc (.cells #[.int .i64 c.protos, .int .i64 c.bytes, .int .i64 c.points, .int .i64 c.store, .int .i64 c.mode, .int .i64 c.unit, .slice c.A c.rules.length c.c] 30)).alloc (.cells #[.int .i64 x.protos, .int .i64 x.bytes, .int .i64 x.points, .int .i64 x.store, .int .i64 x.mode, .int .i64 x.unit, .slice x.A x.rules.length x.c] 30)) p b w.heap.size c := ⟨h2.blk, hb1, hc.below hbl, ((Aw.refl [b] w).alloc _).alloc _⟩
  obtain ⟨E, hE⟩ : ∃ E, addE m s.data.toList c = E := ⟨_, rfl⟩
  have HE : Hid (E = if !(tnameB s.data.toList) || !(cfgB c) then 19 else if hv then 18 else if 5 ≤ m.length then 14 else 0) := Lib.hid (by rw [← hE, ← hh]; rfl)
  rw [hE]
  clear hE
  go_enter Try.func11, Try.ntmps11
  go_upto_region 2 with (at_lookup; refine wpList_lookup_cfg _ rfl _ _ rfl b m rfl h1.own s hs2 rfl x hv hx hh ?_)
  have hcs := fun W (k : AS w W p b w.heap.size c) => check_any c W (k.cf.more k.aw.size)
  have hcp := fun W (k : AS w W p b w.heap.size c) => copied_any c W (k.cf.more k.aw.size)
  clear h1 c0 hb1 hbl hz h
  generalize ((w.alloc (.cells #[.int .i64 c.protos, .int .i64 c.bytes, .int .i64 c.points, .int .i64 c.store, .int .i64 c.mode, .int .i64 c.unit, .slice c.A c.rules.length c.c] 30)).alloc (.cells #[.int .i64 x.protos, .int .i64 x.bytes, .int .i64 x.points, .int .i64 x.store, .int .i64 x.mode, .int .i64 x.unit, .slice x.A x.rules.length x.c] 30)) = W at *
  generalize hg : w.heap.size = g at *
  have HT : ∀ W', AS w W' p b g c → BookAt W' p b m → E ≠ 0 → AddQ W' p b m s.data.toList c E ∧ Aw [b] w W' := fun W' h3 h4 h5 => ⟨AddQ.no h5 h4, h3.aw⟩
  have HTH := Lib.hid HT
  clear HT
  obtain ⟨⟨c0, q0, q1, q2, q3, q4, q5, q6⟩, _⟩ := hAS.fs
  generalize tnameB s.data.toList = TN at hN HE
  cases TN
  · have e := Lib.hid (show E = 19 by rw [HE.out]; rfl)
    clear hcs hcp HE
    go_wp2_with (go_at_call 23; (with_reducible refine (hN _).mono ?_); rintro en w1 ⟨rfl, hw1⟩; rw [hw1]; clear hw1 w1)
    go_ret
    exact ⟨by rw [e.out]; rfl, HTH.out W hAS h2 (by have := e.out; omega)⟩
  have kC := hcs W hAS
  unfold cfgE at kC
  generalize cfgB c = CB at kC HE
  cases CB
  · have e := Lib.hid (show E = 19 by rw [HE.out]; rfl)
    have kC' : Calls Try.prog 20 #[.agg #[.int .i64 c.protos, .int .i64 c.bytes, .int .i64 c.points, .int .i64 c.store, .int .i64 c.mode, .int .i64 c.unit, .slice c.A c.rules.length c.c]] W fun e w' => e = .returned (.int .i64 19) ∧ Below W.heap.size W w' := kC
    clear hcs hcp HE kC
    go_wp2_with (first
      | (go_at_call 23; (with_reducible refine (hN _).mono ?_); rintro en w1 ⟨rfl, hw1⟩; rw [hw1]; clear hw1 w1)
      | (go_at_call 20; (with_reducible refine kC'.mono ?_); rintro en w1 ⟨rfl, hb1⟩))
    go_ret
    exact ⟨by rw [e.out]; rfl, HTH.out w1 (hAS.call hb1) (h2.bel hb1) (by have := e.out; omega)⟩
  have kC' : Calls Try.prog 20 #[.agg #[.int .i64 c.protos, .int .i64 c.bytes, .int .i64 c.points, .int .i64 c.store, .int .i64 c.mode, .int .i64 c.unit, .slice c.A c.rules.length c.c]] W fun e w' => e = .returned (.int .i64 0) ∧ Below W.heap.size W w' := kC
  clear hcs kC
  cases hv
  rotate_left
  · have e := Lib.hid (show E = 18 by rw [HE.out]; rfl)
    clear hcp HE
    go_wp2_with (first
      | (go_at_call 23; (with_reducible refine (hN _).mono ?_); rintro en w1 ⟨rfl, hw1⟩; rw [hw1]; clear hw1 w1)
      | (go_at_call 20; (with_reducible refine kC'.mono ?_); rintro en w1 ⟨rfl, hb1⟩))
    go_ret
    exact ⟨by rw [e.out]; rfl, HTH.out w1 (hAS.call hb1) (h2.bel hb1) (by have := e.out; omega)⟩
  have hsz := size_dKV VCfg.val m
  go_upto_region 6 with (first
      | (go_at_call 23; (with_reducible refine (hN _).mono ?_); rintro en w1 ⟨rfl, hw1⟩; rw [hw1]; clear hw1 w1)
      | (go_at_call 20; (with_reducible refine kC'.mono ?_); rintro en w1 ⟨rfl, hb1⟩))
  have hAS1 := hAS.call hb1
  have h3 := h2.bel hb1
  clear hN kC' hAS h2 hb1 c0 q0 q1 q2 q3 q4 q5 q6
  obtain ⟨⟨c0, q0, q1, q2, q3, q4, q5, q6⟩, _⟩ := hAS1.fs
  by_cases h5 : 5 ≤ m.length
  · have d5 : decide ((5 : Int) ≤ (m.length : Int)) = true := decide_eq_true (by omega)
    have d5n : decide (5 ≤ m.length) = true := decide_eq_true h5
    have e := Lib.hid (show E = 14 by rw [HE.out, if_pos h5]; rfl)
    clear hcp HE
    go_wp2_with (at_len; refine wpList_len_own _ rfl _ 66 rfl 9 30 Try.underlying66 heldE b m.length (dKV VCfg.val m) rfl h3.own ?_)
    go_ret
    exact ⟨by rw [e.out]; rfl, HTH.out w1 hAS1 h3 (by have := e.out; omega)⟩
  · have d5 : decide ((5 : Int) ≤ (m.length : Int)) = false := decide_eq_false (by omega)
    have d5n : decide (5 ≤ m.length) = false := decide_eq_false h5
    have e := Lib.hid (show E = 0 by rw [HE.out, if_neg h5]; rfl)
    clear HE HTH
    go_upto_region 8 with (at_len; refine wpList_len_own _ rfl _ 66 rfl 9 30 Try.underlying66 heldE b m.length (dKV VCfg.val m) rfl h3.own ?_)
    clear c0 q0 q1 q2 q3 q4 q5 q6
    go_region_held3 (fun w' => (w'.cell? ⟨p, 0, none⟩ = some (.map (some b)) ∧ w'.cell? ⟨g, 0, none⟩ = some (.int .i64 c.protos) ∧ w'.cell? ⟨g, 1, none⟩ = some (.int .i64 c.bytes) ∧ w'.cell? ⟨g, 2, none⟩ = some (.int .i64 c.points) ∧ w'.cell? ⟨g, 3, none⟩ = some (.int .i64 c.store) ∧ w'.cell? ⟨g, 4, none⟩ = some (.int .i64 c.mode) ∧ w'.cell? ⟨g, 5, none⟩ = some (.int .i64 c.unit) ∧ w'.cell? ⟨g, 6, none⟩ = some (.slice c.A c.rules.length c.c)) ∧ AS w w' p b g c) (first | (with_reducible assumption) | (with_reducible exact hAS1.fs) | (with_reducible exact hAS1.drew.fs) | (with_reducible exact (AS.drew (And.right (by with_reducible assumption))).fs)) (first
      | (go_at_call 24; (with_reducible refine (hcp _ (And.right (by with_reducible assumption))).mono ?_); rintro en w5 ⟨⟨A5, c5, qs, rfl, hQ, hO⟩, hb5⟩; have hqn : c.rules.length = qs.length := (by have hq3 := congrArg List.length hQ; rw [List.length_map, List.length_map] at hq3; exact hq3.symm); have S5 := (AS.call (And.right (by with_reducible assumption)) hb5).fs; have h5b : BookAt w5 p b m := (by first | exact h3.bel hb5 | exact h3.drew.bel hb5); obtain ⟨w6, hrun6, hown6, hturn6⟩ := store_cfg h5b.own (by unfold maxLen; omega) s hs2 c A5 c5 qs hqn; have S6 := (AS.turned S5.2 hturn6).fs; have HQ := Lib.hid hQ; clear hqn hQ))
    all_goals
      rename_i hHeld
      obtain ⟨_, hY⟩ := hHeld
      go_wp2_with fail
      go_ret
      have ho := ownsMap_tight hown6
      rw [size_dKV] at ho
      have hqn : c.rules.length = qs.length := by have hq3 := congrArg List.length HQ.out; rw [List.length_map, List.length_map] at hq3; exact hq3.symm
      have hcd := own_cfg (d := ⟨c.protos, c.bytes, c.points, c.store, c.mode, c.unit, A5, c5, qs⟩) hO hqn HQ.out hc ⟨rfl, rfl⟩
      refine ⟨by rw [e.out]; rfl, ?_, hY.aw⟩
      unfold AddQ
      rw [if_pos e.out]
      refine ⟨⟨c.protos, c.bytes, c.points, c.store, c.mode, c.unit, A5, c5, qs⟩, ⟨rfl, rfl, rfl, rfl, rfl, rfl, HQ.out⟩, blk_turned h5b.blk hturn6, ho, h5b.up.put _ _, fun y hy => ?_⟩
      have hsz := (turned_aw hturn6).size
      rcases mem_insKV.1 hy with rfl | hy
      · exact (hcd.turned hturn6).more hsz
      · exact ((h5b.cfg y (List.mem_filter.1 hy).1).turned hturn6).more hsz
end Go.Proofs.Ytjffagffjcbolaa
