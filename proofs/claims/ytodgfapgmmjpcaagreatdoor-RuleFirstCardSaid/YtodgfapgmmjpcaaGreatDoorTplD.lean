/- The walks of package template: a path taken apart. -/
import Derived.Test.YtodgfapgmmjpcaaGreatDoorTplC
import Derived.Test.YtodgfapgmmjpcaaGreatDoorLabD
namespace Go.Proofs.YtodgfapgmmjpcaaGreatDoor
set_option linter.unusedVariables false
set_option linter.unusedSimpArgs false
open Go.RowKit
theorem own_ne2 {w : World} {b1 b2 : Nat} {e1 e2 : TypeId} {s1 s2 n1 n2 : Nat} {v1 v2 : Value} {xs1 xs2 : List Value} (h1 : w.ownsRow b1 e1 s1 v1 n1 xs1) (h2 : w.ownsRow b2 e2 s2 v2 n2 xs2) (hne : e1 ≠ e2) : v1.ownBlock = none ∨ v1.ownBlock ≠ v2.ownBlock := by
  rcases h1.2 with ⟨rfl, _⟩ | ⟨g, cap, cur, rfl, _, hh, _⟩
  · exact .inl rfl
  · refine .inr fun e => ?_
    rcases h2.2 with ⟨rfl, _⟩ | ⟨g', cap', cur', rfl, _, hh', _⟩
    · simp [Value.ownBlock] at e
    · simp only [Value.ownBlock, Option.some.injEq] at e
      subst e
      rw [hh] at hh'
      injection hh' with hh'
      injection hh' with _ ht
      exact hne ht
/-- What Apply hands back. -/
structure ApplyE (w w' : World) (R : ByteArray × List Lab) (e : Ending) : Prop where
  e : ∃ A n c, e = .returned (.tuple #[.string R.1, .slice A n c]) ∧ IsRows labCell 2 w' w'.heap.size A n R.2
  b : Below w.heap.size w w'
theorem takeGo_M {p y : ByteArray} {ps ns nm : List ByteArray} {lb : List Lab} (h : isM p = true) : takeGo (p :: ps) (y :: ns) nm lb = takeGo ps ns (nm ++ [y]) lb := by
  rw [takeGo, if_pos h]; rfl
theorem takeGo_T {p y : ByteArray} {ps ns nm : List ByteArray} {lb : List Lab} (h1 : isM p = false) (h : isT p = true) : takeGo (p :: ps) (y :: ns) nm lb = takeGo ps ns (nm ++ (y :: ns)) lb := by
  rw [takeGo, if_neg (by rw [h1]; simp), if_pos h]; rfl
theorem takeGo_K {p y : ByteArray} {ps ns nm : List ByteArray} {lb : List Lab} (h1 : isM p = false) (h2 : isT p = false) (h : isK p = true) : takeGo (p :: ps) (y :: ns) nm lb = takeGo ps ns nm lb := by
  rw [takeGo, if_neg (by rw [h1]; simp), if_neg (by rw [h2]; simp), if_pos h]; rfl
theorem takeGo_L {p y : ByteArray} {ps ns nm : List ByteArray} {lb : List Lab} (h1 : isM p = false) (h2 : isT p = false) (h : isK p = false) : takeGo (p :: ps) (y :: ns) nm lb = takeGo ps ns nm (lb ++ [(p, y)]) := by
  rw [takeGo, if_neg (by rw [h1]; simp), if_neg (by rw [h2]; simp), if_neg (by rw [h]; simp)]; rfl
theorem isM_toL (x : ByteArray) : isM x = (x.toList == [109, 101, 116, 114, 105, 99]) := by unfold isM; rw [ByteArray.toList_eq]
theorem isT_toL (x : ByteArray) : isT x = (x.toList == [109, 101, 116, 114, 105, 99, 42]) := by unfold isT; rw [ByteArray.toList_eq]
theorem isK_toL (x : ByteArray) : isK x = (x.toList == [95]) := by unfold isK; rw [ByteArray.toList_eq]
set_option maxRecDepth 100000 in
set_option maxHeartbeats 6400000 in
theorem apply1_any (x : VRule) (p : ByteArray) (m : Int) (w : World) (h : RuleAt w w.heap.size x) (hg : goodR x.rule = true) (hpn : x.rule.parts.length ≤ (nodesT p).length) (hm : MxAt w m) (hs : p.size ≤ 1048576) :
    Calls Tryz.prog 22 #[.agg #[.slice x.fA x.rule.filter.length x.fC, .slice x.pA x.rule.parts.length x.pC, .slice x.eA x.rule.extra.length x.eC], .string p] w fun e w' => ApplyE w w' (takeT x.rule p) e := by
  have hm0 : MxAt (w.alloc (.cells #[.slice x.fA x.rule.filter.length x.fC, .slice x.pA x.rule.parts.length x.pC, .slice x.eA x.rule.extra.length x.eC] 25)) m := hm.below ((Below.refl _ _).alloc (Nat.le_refl _) _)
  have hb0 : Below w.heap.size w (w.alloc (.cells #[.slice x.fA x.rule.filter.length x.fC, .slice x.pA x.rule.parts.length x.pC, .slice x.eA x.rule.extra.length x.eC] 25)) := (Below.refl _ _).alloc (Nat.le_refl _) _
  have h0 := h.bel hb0
  have kS := split_any p m _ hm0 hs
  have hnl := nodesT_len p
  have hnz : Hid (∀ z ∈ nodesT p, z.size ≤ 1048576) := Lib.hid (fun z hz => Nat.le_trans (nodesT_sz hz) hs)
  obtain ⟨_, hp0, hp12, hx8⟩ := good_lens hg
  obtain ⟨R, hR⟩ : ∃ R, takeGo x.rule.parts (nodesT p) [] x.rule.extra = R := ⟨_, rfl⟩
  have hT : takeT x.rule p = (joinT R.1, (sortL R.2).getD []) := by unfold takeT; rw [hR]
  rw [hT]
  have hF := h0.f
  have hP := h0.p
  have hE := h0.e
  generalize nodesT p = ns at *
  clear h h0 hm0 hm hg hT
  obtain ⟨⟨fs, ps, es⟩, fA, fC, pA, pC, eA, eC⟩ := x
  simp only at *
  have H0 : Hid ((∀ z ∈ ([] : List ByteArray), z.size ≤ 1048576) ∧ takeGo (ps.drop 0) (ns.drop 0) [] es = R) := Lib.hid ⟨by simp, hR⟩
  clear hR
  have hW := Blk.new w 25 #[.slice fA fs.length fC, .slice pA ps.length pC, .slice eA es.length eC]
  obtain ⟨i0, hi0, hz0, hz1, hz2⟩ := info_parts Tryz.infoString
  obtain ⟨i1, hi1, hy0, hy1, hy2⟩ := info_parts Tryz.infoLabel
  have hu : Tryz.prog.underlying 22 = some (.slice 9) := by kernel_rfl
  have hu1 : Tryz.prog.underlying 23 = some (.slice 33) := by kernel_rfl
  go_enter Tryz.func22, Tryz.ntmps22
  go_wp2_with (first
    | (go_at_call 13; (with_reducible refine kS.mono ?_); rintro e w1 ⟨rfl, hr1, hb1⟩; have hW1 := hW.below hb1 (Blk.lt hW); have c0 := (Blk.cell hW1 0).trans rfl; have c1 := (Blk.cell hW1 1).trans rfl; have c2 := (Blk.cell hW1 2).trans rfl)
    | (at_builtin; go_loud (refine wpList_append_any _ (by rfl) _ _ _ (by rfl) w1.heap.size 33 i1 _ 2 32 hu1 hi1 hy0 hy1 hy2 rfl (by omega) _ 0 [] (by rfl) (World.ownsRow_nil _ _ _ _) w1.heap.size eA es.length eC _ (by rfl) (labs_reads (hE.bel hb1)) (labs_one es) (by simp [maxLen]; omega) (by omega) (by omega) ?_); intro v2 w2 hown2 hgrow2 hat2; have hW2 := hW1.grown hgrow2 (by simp [Value.ownBlock]); have d1 := (Blk.cell hW2 1).trans rfl))
  rw [Nat.zero_add, List.nil_append] at hown2
  have hbs : (w.alloc (.cells #[.slice fA fs.length fC, .slice pA ps.length pC, .slice eA es.length eC] 25)).heap.size = w.heap.size + 1 := by simp
  rw [hbs] at hr1
  have hz12 := hgrow2.size
  have hbw2 : Below w1.heap.size w1 w2 := (Below.refl _ _).grown hgrow2 (Nat.le_refl _) (by intro k hk; simp [Value.ownBlock] at hk)
  have hb01 := bl_any hb0 hb1
  have hP1 := hP.bel hb1
  clear kS hW hW1 hW2 hgrow2 hat2 c0 c1 c2 hF hE hP
  go_loopw [7, 8, 19] (fun nv lv i wr => Below w1.heap.size w1 wr ∧ ∃ (k : Nat) (nm : List ByteArray) (lb : List Lab), k ≤ ps.length ∧ i = .int .i64 k ∧ nm.length ≤ 1048577 * k ∧ lb.length ≤ 8 + k ∧ wr.ownsRow w1.heap.size 9 1 nv nm.length (nm.flatMap strCell) ∧ wr.ownsRow w1.heap.size 33 2 lv lb.length (lb.flatMap labCell) ∧ Hid ((∀ z ∈ nm, z.size ≤ 1048576) ∧ takeGo (ps.drop k) (ns.drop k) nm lb = R)) (fun _ _ i _ => ps.length - (intOf i).toNat)
  case atStart => exact ⟨hbw2, 0, [], es, by omega, rfl, by simp, by omega, World.ownsRow_nil _ _ _ _, hown2, H0⟩
  case round =>
    obtain ⟨hbw, k, nm, lb, hk, rfl, hnm, hlb, hn, hl, HR⟩ := hrel
    clear hown2 hbw2 H0 d1 hz12
    have hws := hbw.size
    by_cases hlt : k < ps.length
    · have hdk : decide ((k : Int) < (ps.length : Int)) = true := decide_eq_true (by omega)
      have hk0 : (0 : Int) ≤ k := by omega
      have hk1 : (k : Int) < (ps.length : Int) := by omega
      have hk2 : (k : Int) < (ns.length : Int) := by omega
      have hk3 : (k : Int) ≤ (ns.length : Int) := by omega
      obtain ⟨b, off, x, rfl, hgb, hx, e0⟩ := str_at (hP1.bel hbw) hlt
      obtain ⟨b2, off2, y, hAA, _, hy, e1⟩ := str_at (hr1.bel hbw) (show k < ns.length by omega)
      injection hAA with hAA
      injection hAA with hA1 hA2
      subst hA1; subst hA2
      simp only [Nat.zero_add] at e1
      have HM := Lib.hid (isM_toL x)
      have HT := Lib.hid (isT_toL x)
      have HK := Lib.hid (isK_toL x)
      have HP := Lib.hid (drop_at hx)
      have HN := Lib.hid (drop_at hy)
      have HY := Lib.hid (hnz.out y (List.mem_of_getElem? hy))
      have hne := own_ne2 hl hn (by decide)
      have hne2 := own_ne2 hn hl (by decide)
      clear hx hy
      cases qM : (x.toList == [109, 101, 116, 114, 105, 99])
      · cases qT : (x.toList == [109, 101, 116, 114, 105, 99, 42])
        · cases qK : (x.toList == [95])
          · have HF : Hid ((∀ z ∈ nm, z.size ≤ 1048576) ∧ takeGo (ps.drop (k + 1)) (ns.drop (k + 1)) nm (lb ++ [(x, y)]) = R) := Lib.hid ⟨HR.out.1, by
              rw [← HR.out.2, HP.out, HN.out, takeGo_L (by rw [HM.out]; exact qM) (by rw [HT.out]; exact qT) (by rw [HK.out]; exact qK)]⟩
            clear HR HM HT HK HP HN
            go_wp2_with (at_builtin; go_loud (refine wpList_append_lies _ (by rfl) _ _ _ (by rfl) w1.heap.size 33 i1 _ 2 32 hu1 hi1 hy0 hy1 hy2 rfl (by omega) _ lb.length (lb.flatMap labCell) (by rfl) (hl.alloc _) ⟨wr.heap.size, 0, none⟩ 1 1 [.string x, .string y] (by rfl) (by rfl) (World.news_of_block (blk_at (by simp))) (by simp [Value.oneCell']) (by omega) (by simp [maxLen]; omega) (by omega) (by simp; omega) (wr.heap.size + 1) (by simp) ?_); intro gg capg w4 hown4 hgrow hat hlt4)
            exact ⟨⟨(bl_alloc hbw _).grown hgrow (by simp; omega) (fun j e => (hl.lt _ e).1), k + 1, nm, lb ++ [(x, y)], by omega, rfl, by omega, by simp; omega, (hn.alloc _).kept hgrow hne2, by rw [List.length_append, List.flatMap_append]; exact hown4, HF⟩, by (simp only [intOf]; omega)⟩
          · have HF : Hid ((∀ z ∈ nm, z.size ≤ 1048576) ∧ takeGo (ps.drop (k + 1)) (ns.drop (k + 1)) nm lb = R) := Lib.hid ⟨HR.out.1, by
              rw [← HR.out.2, HP.out, HN.out, takeGo_K (by rw [HM.out]; exact qM) (by rw [HT.out]; exact qT) (by rw [HK.out]; exact qK)]⟩
            clear HR HM HT HK HP HN
            go_wp2_with fail
            exact ⟨⟨hbw, k + 1, nm, lb, by omega, rfl, by omega, by omega, hn, hl, HF⟩, by (simp only [intOf]; omega)⟩
        · have HF : Hid ((∀ z ∈ nm ++ ns.drop k, z.size ≤ 1048576) ∧ takeGo (ps.drop (k + 1)) (ns.drop (k + 1)) (nm ++ ns.drop k) lb = R) := Lib.hid ⟨fun z hz => by
              rcases List.mem_append.1 hz with h | h
              · exact HR.out.1 z h
              · exact hnz.out z (List.mem_of_mem_drop h), by
              rw [← HR.out.2, HP.out, HN.out, takeGo_T (by rw [HM.out]; exact qM) (by rw [HT.out]; exact qT)]⟩
          clear HR HM HT HK HP HN
          have hcut := rows_cut k (hr1.bel hbw)
          simp only [Nat.zero_add, Nat.mul_one] at hcut
          go_wp2_with (at_builtin; go_loud (refine wpList_append_any _ (by rfl) _ _ _ (by rfl) w1.heap.size 9 i0 _ 1 16 hu hi0 hz0 hz1 hz2 rfl (by omega) _ nm.length (nm.flatMap strCell) (by rfl) hn wr.heap.size _ (ns.length - k) _ _ (by rfl) (strs_reads hcut) (strs_one (ns.drop k)) (by simp [maxLen]; omega) (by omega) (by omega) ?_); intro v4 w4 hown4 hgrow hat4)
          exact ⟨⟨hbw.grown hgrow (by omega) (fun j e => (hn.lt _ e).1), k + 1, nm ++ ns.drop k, lb, by omega, rfl, by rw [List.length_append, List.length_drop]; omega, by omega, by rw [List.length_append, List.length_drop, List.flatMap_append]; exact hown4, hl.kept hgrow hne, HF⟩, by (simp only [intOf]; omega)⟩
      · have HF : Hid ((∀ z ∈ nm ++ [y], z.size ≤ 1048576) ∧ takeGo (ps.drop (k + 1)) (ns.drop (k + 1)) (nm ++ [y]) lb = R) := Lib.hid ⟨fun z hz => by
            rcases List.mem_append.1 hz with h | h
            · exact HR.out.1 z h
            · rw [List.mem_singleton] at h; rw [h]; exact HY.out, by
            rw [← HR.out.2, HP.out, HN.out, takeGo_M (by rw [HM.out]; exact qM)]⟩
        clear HR HM HT HK HP HN
        go_wp2_with (at_builtin; go_loud (refine wpList_append_lies _ (by rfl) _ _ _ (by rfl) w1.heap.size 9 i0 _ 1 16 hu hi0 hz0 hz1 hz2 rfl (by omega) _ nm.length (nm.flatMap strCell) (by rfl) (hn.alloc _) ⟨wr.heap.size, 0, none⟩ 1 1 [.string y] (by rfl) (by rfl) (World.news_of_block (blk_at (by simp))) (by simp [Value.oneCell']) (by omega) (by simp [maxLen]; omega) (by omega) (by simp; omega) (wr.heap.size + 1) (by simp) ?_); intro gg capg w4 hown4 hgrow hat hlt4)
        exact ⟨⟨(bl_alloc hbw _).grown hgrow (by simp; omega) (fun j e => (hn.lt _ e).1), k + 1, nm ++ [y], lb, by omega, rfl, by simp; omega, by omega, by rw [List.length_append, List.flatMap_append]; exact hown4, (hl.alloc _).kept hgrow hne, HF⟩, by (simp only [intOf]; omega)⟩
    · have hdk : decide ((k : Int) < (ps.length : Int)) = false := decide_eq_false (by omega)
      obtain rfl : k = ps.length := by omega
      obtain ⟨hnz2, hR⟩ := HR.out
      rw [List.drop_length, takeGo] at hR
      subst hR
      try simp only
      obtain ⟨lA, lc, rfl, hlr⟩ := own_rws (f := labCell) (fun _ => rfl) hl rfl
      obtain ⟨nA, nc, rfl, hnr, hnc⟩ := own_rwc (f := strCell) (fun _ => rfl) hn rfl
      have kL := sortB_any lA lb.length lc lb wr hlr (by omega)
      have kJ := fun W (hb : Below wr.heap.size wr W) => join_any nA nm.length nc nm W.heap.size W (hnr.bel hb) (Nat.le_refl _) (by omega) hnc hnz2
      clear HR
      go_wp2_with (first
        | (go_at_call 48; (with_reducible refine kL.mono ?_); rintro e w5 ⟨⟨A5, n5, c5, rfl, hr5, _, _⟩, hb5⟩)
        | (go_at_call 26; (with_reducible refine (kJ _ hb5).mono ?_); rintro e w6 ⟨rfl, hb6⟩))
      go_ret2
      exact ⟨⟨A5, n5, c5, rfl, hr5.bel hb6⟩, bl_any hb01 ((hbw.trans (hb5.mono hws)).trans (hb6.mono (Nat.le_trans hws hb5.size)))⟩
/-! ### the first rule that matches -/
def ruleCell (x : VRule) : List Value := [.slice x.fA x.rule.filter.length x.fC, .slice x.pA x.rule.parts.length x.pC, .slice x.eA x.rule.extra.length x.eC]
theorem match_facts {r : MRule} {p : ByteArray} (h : matchT r p = true) : goodR r = true ∧ r.parts.length ≤ (nodesT p).length := by
  unfold matchT fitsN at h
  simp only [Bool.and_eq_true, Bool.not_eq_true', Bool.or_eq_false_iff, decide_eq_false_iff_not] at h
  exact ⟨h.1, by omega⟩
theorem apply_no {x : VRule} {xs : List VRule} {p : ByteArray} (h : matchT x.rule p = false) : applyT ((x :: xs).map VRule.rule) p = applyT (xs.map VRule.rule) p := by
  unfold applyT
  rw [List.map_cons, List.find?_cons, h]
theorem apply_yes {x : VRule} {xs : List VRule} {p : ByteArray} (h : matchT x.rule p = true) : applyT ((x :: xs).map VRule.rule) p = takeT x.rule p := by
  unfold applyT
  rw [List.map_cons, List.find?_cons, h]
set_option maxRecDepth 100000 in
set_option maxHeartbeats 3200000 in
theorem apply_any (A : Option Addr) (n cap : Nat) (xs : List VRule) (p : ByteArray) (m : Int) (w : World) (hl : IsRows ruleCell 3 w w.heap.size A n xs) (hr : ∀ x ∈ xs, RuleAt w w.heap.size x ∧ RuleOk x.rule) (hn : n ≤ 2097152) (hm : MxAt w m) (hs : p.size ≤ 1048576) :
    Calls Tryz.prog 11 #[.slice A n cap, .string p] w fun e w' => ApplyE w w' (applyT (xs.map VRule.rule) p) e := by
  have hll := hl.1
  obtain ⟨R, hR⟩ : ∃ R, applyT (xs.map VRule.rule) p = R := ⟨_, rfl⟩
  have H0 : Hid (applyT ((xs.drop 0).map VRule.rule) p = R) := Lib.hid (by rw [List.drop_zero]; exact hR)
  rw [hR]
  have HA := Lib.hid hr
  clear hR hr
  go_enter Tryz.func11, Tryz.ntmps11
  go_wp2_with fail
  go_loopw [10] (fun i wr => Below w.heap.size w wr ∧ ∃ k : Nat, k ≤ n ∧ i = .int .i64 k ∧ Hid (applyT ((xs.drop k).map VRule.rule) p = R)) (fun i _ => n - (intOf i).toNat)
  case atStart => exact ⟨Below.refl _ _, 0, by omega, rfl, H0⟩
  case round =>
    obtain ⟨hbw, k, hk, rfl, HR⟩ := hrel
    clear H0
    by_cases hlt : k < n
    · have hdk : decide ((k : Int) < n) = true := decide_eq_true (by omega)
      have hk0 : (0 : Int) ≤ k := by omega
      have hk1 : (k : Int) < n := by omega
      obtain ⟨b, off, rfl, hb, hcs⟩ := (hl.bel hbw).2 (by omega)
      obtain ⟨X, hX⟩ : ∃ X, xs[k]? = some X := ⟨_, List.getElem?_eq_getElem (by omega)⟩
      obtain ⟨hra, hok⟩ := HA.out X (List.mem_of_getElem? hX)
      have q0 : wr.cell? ⟨b, off + k * 3, none⟩ = some (.slice X.fA X.rule.filter.length X.fC) := hcs k X 0 _ hX rfl
      have q1 : wr.cell? ⟨b, off + k * 3 + 1, none⟩ = some (.slice X.pA X.rule.parts.length X.pC) := hcs k X 1 _ hX rfl
      have q2 : wr.cell? ⟨b, off + k * 3 + 2, none⟩ = some (.slice X.eA X.rule.extra.length X.eC) := hcs k X 2 _ hX rfl
      have HD := Lib.hid (drop_at hX)
      have hB := Blk.new wr 25 #[.slice X.fA X.rule.filter.length X.fC, .slice X.pA X.rule.parts.length X.pC, .slice X.eA X.rule.extra.length X.eC]
      have hbX := bl_alloc hbw (.cells #[.slice X.fA X.rule.filter.length X.fC, .slice X.pA X.rule.parts.length X.pC, .slice X.eA X.rule.extra.length X.eC] 25)
      have c0 := (Blk.cell hB 0).trans rfl
      have c1 := (Blk.cell hB 1).trans rfl
      have c2 := (Blk.cell hB 2).trans rfl
      have kM := match_any X p m _ (hra.bel hbX) hok (hm.below hbX) hs
      clear hcs hX
      cases hq : matchT X.rule p
      · rw [hq] at kM
        have HF : Hid (applyT ((xs.drop (k + 1)).map VRule.rule) p = R) := Lib.hid (by rw [← HR.out, HD.out, apply_no hq])
        clear HR HD hq
        go_wp2_with (go_at_call 10; (with_reducible refine kM.mono ?_); rintro e w1 ⟨rfl, hb1⟩)
        exact ⟨⟨bl_any hbX hb1, k + 1, by omega, rfl, HF⟩, by (simp only [intOf]; omega)⟩
      · rw [hq] at kM
        have HF : Hid (takeT X.rule p = R) := Lib.hid (by rw [← HR.out, HD.out, apply_yes hq])
        obtain ⟨hg, hpn⟩ := match_facts hq
        have kA := fun W (hb : Below w.heap.size w W) => apply1_any X p m W (hra.bel hb) hg hpn (hm.below hb) hs
        clear HR HD hq hg hpn
        go_wp2_with (first
          | (go_at_call 10; (with_reducible refine kM.mono ?_); rintro e w1 ⟨rfl, hb1⟩; have hB1 := hB.below hb1 (Blk.lt hB); have d0 := (Blk.cell hB1 0).trans rfl; have d1 := (Blk.cell hB1 1).trans rfl; have d2 := (Blk.cell hB1 2).trans rfl)
          | (go_at_call 22; (with_reducible refine (kA _ (bl_any hbX hb1)).mono ?_); rintro e w2 ⟨⟨A2, n2, c2, rfl, hr2⟩, hb2⟩))
        go_ret2
        exact ⟨⟨A2, n2, c2, by rw [← HF.out]; rfl, by rw [← HF.out]; exact hr2⟩, bl_any (bl_any hbX hb1) hb2⟩
    · have hdk : decide ((k : Int) < n) = false := decide_eq_false (by omega)
      have hR := HR.out
      rw [List.drop_of_length_le (by omega)] at hR
      simp only [List.map_nil, applyT, List.find?_nil] at hR
      subst hR
      clear HR
      go_wp2_with fail
      go_ret2
      exact ⟨⟨none, 0, 0, rfl, IsRows.nil_⟩, hbw⟩
end Go.Proofs.YtodgfapgmmjpcaaGreatDoor
