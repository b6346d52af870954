/- The walks of package template: Split, Join's use, endless, Match. -/
import Derived.Test.YtodgfapgmmjpcaaGreatDoorTplB
import Derived.Test.YtodgfapgmmjpcaaGreatDoorTplSplit
import Derived.Test.YtodgfapgmmjpcaaGreatDoorShelfJ
namespace Go.Proofs.YtodgfapgmmjpcaaGreatDoor
set_option linter.unusedVariables false
set_option linter.unusedSimpArgs false
open Go.RowKit
/-- bytealg.MaxLen's cell. -/
def MxAt (w : World) (m : Int) : Prop := w.cell? ⟨0, 0, none⟩ = some (.int .i64 m)
theorem MxAt.below {w w' : World} {m : Int} (h : MxAt w m) (k : Below w.heap.size w w') : MxAt w' m := (k.cell (p := ⟨0, 0, none⟩) (lt_of_cell h)).trans h
theorem MxAt.bel {w w' : World} {m : Int} {B : Nat} (h : MxAt w m) (k : Below B w w') (hB : 0 < B) : MxAt w' m := (k.cell (p := ⟨0, 0, none⟩) hB).trans h
theorem flat_strs (l : List ByteArray) : (l.map Value.string) = l.flatMap strCell := by
  induction l with
  | nil => rfl
  | cons x l ih => rw [List.map_cons, List.flatMap_cons, ih]; rfl
theorem IsRows.bel {α : Type} {f : α → List Value} {size : Nat} {w w' : World} {A : Option Addr} {n : Nat} {xs : List α} (h : IsRows f size w w.heap.size A n xs) (k : Below w.heap.size w w') : IsRows f size w' w'.heap.size A n xs := (h.below k).more k.size
/-- What Split hands back. -/
structure SplitE (w w' : World) (ns : List ByteArray) (e : Ending) : Prop where
  e : e = .returned (.slice (some ⟨w.heap.size, 0, none⟩) ns.length ns.length)
  r : IsRows strCell 1 w' w'.heap.size (some ⟨w.heap.size, 0, none⟩) ns.length ns
  b : Below w.heap.size w w'
theorem strSplit_any (p : ByteArray) (m : Int) (w : World) (hm : MxAt w m) (hs : p.size ≤ 1048576) :
    Calls Tryz.prog 28 #[.string p, .string ⟨#[46]⟩] w fun e w' => SplitE w w' (nodesT p) e := by
  have hlen := Lib.splitB_all (⟨#[46]⟩ : ByteArray) (Nat.le_refl 1) 0 _ p rfl
  refine (Tryz.strings_Split p ⟨#[46]⟩ m w (by omega) hm (Nat.le_refl 1)).mono ?_
  rintro e w' ⟨rfl, rfl⟩
  rw [splitB_nodes] at hlen ⊢
  refine ⟨by rw [hlen], ?_, (Below.refl _ _).alloc (Nat.le_refl _) _⟩
  exact IsRows.made (f := strCell) (fun _ => rfl) w _ _ (nodesT p) (by rw [List.toList_toArray, flat_strs])
theorem split_any (p : ByteArray) (m : Int) (w : World) (hm : MxAt w m) (hs : p.size ≤ 1048576) :
    Calls Tryz.prog 13 #[.string p] w fun e w' => SplitE w w' (nodesT p) e := by
  have k := strSplit_any p m w hm hs
  go_enter Tryz.func13, Tryz.ntmps13
  go_wp2_with (go_at_call 28; (with_reducible refine k.mono ?_); rintro e w1 ⟨rfl, hr, hb⟩)
  go_ret
  exact ⟨rfl, hr, hb⟩
theorem own_rwc {α : Type} {f : α → List Value} {size : Nat} (hf : ∀ x, (f x).length = size) {w : World} {base : Nat} {e : TypeId} {v : Value} {n : Nat} {l : List α} (h : w.ownsRow base e size v n (l.flatMap f)) (hn : l.length = n) :
    ∃ (A : Option Addr) (cap : Nat), v = .slice A n cap ∧ IsRows f size w w.heap.size A n l ∧ n ≤ cap := by
  obtain ⟨A, cap, rfl, hr⟩ := own_rws hf h hn
  refine ⟨A, cap, rfl, hr, ?_⟩
  rcases h.2 with ⟨h1, rfl⟩ | ⟨g, cap', cur, h1, _, _, hnc, _⟩
  · exact Nat.zero_le _
  · injection h1 with _ _ h1
    rw [h1]; exact hnc
theorem join_any (A : Option Addr) (n cap : Nat) (xs : List ByteArray) (B : Nat) (w : World) (hl : IsRows strCell 1 w B A n xs) (hB : B ≤ w.heap.size) (hn : n ≤ 16777216) (hcap : n ≤ cap) (hsz : ∀ x ∈ xs, x.size ≤ 1048576) :
    Calls Tryz.prog 26 #[.slice A n cap, .string ⟨#[46]⟩] w fun e w' => e = .returned (.string (joinT xs)) ∧ Below w.heap.size w w' := by
  obtain ⟨hlen, hc⟩ := hl
  subst hlen
  by_cases h0 : xs.length = 0
  · have : xs = [] := List.length_eq_zero_iff.1 h0
    subst this
    exact (Tryz.strings_Join_none A cap ⟨#[46]⟩ w).mono fun e w' ⟨h1, h2⟩ => ⟨h1, by rw [h2]; exact Below.refl _ _⟩
  · obtain ⟨b, off, rfl, hb, hcell⟩ := hc (by omega)
    have hj := joinT_le 1048576 xs hsz
    have hj2 : xs.length * (1048576 + 1) ≤ 16777216 * (1048576 + 1) := Nat.mul_le_mul_right _ hn
    have e1 : (joinT xs).size = (Lib.join (xs.map (·.data.toList)) (⟨#[46]⟩ : ByteArray).data.toList).length := rfl
    exact Tryz.strings_Join b off cap xs ⟨#[46]⟩ w (fun j x hx => by have := hcell j x 0 _ hx rfl; simpa using this) (by omega) (by omega) hcap (by omega)
theorem endless_any (A : Option Addr) (n cap : Nat) (ps : List ByteArray) (B : Nat) (w : World) (hl : IsRows strCell 1 w B A n ps) (h0 : 0 < n) (hn : n ≤ 2097152) :
    Calls Tryz.prog 21 #[.slice A n cap] w fun e w' => e = .returned (.bool (endless ps)) ∧ w' = w := by
  have hll := hl.1
  obtain ⟨b, off, x, rfl, hgb, hx, e0⟩ := str_at hl (show n - 1 < n by omega)
  have hw1 : IntKind.i64.wrap ((n : Int) - 1) = (n : Int) - 1 := IntWalk.i64_in _ (by omega)
  have hw2 : ((n : Int) - 1).toNat = n - 1 := by omega
  have hk0 : (0 : Int) ≤ (n : Int) - 1 := by omega
  have hk1 : (n : Int) - 1 < n := by omega
  have hk2 : (1 : Int) ≤ (n : Int) := by omega
  have HE : Hid (endless ps = (x.toList == [109, 101, 116, 114, 105, 99, 42])) := Lib.hid (by
    unfold endless isT
    rw [List.getD_eq_getElem?_getD, hll, hx, ByteArray.toList_eq]; rfl)
  clear hx hll
  go_enter Tryz.func21, Tryz.ntmps21
  go_wp2_with fail
  go_ret
  exact ⟨ret_bool (by rw [HE.out]), rfl⟩
/-! ### Match -/
theorem filt_succ (fs ns : List ByteArray) (k : Nat) : filtTo fs ns (k + 1) = (filtTo fs ns k && (isE (fs.getD k default) || (fs.getD k default).data.toList == (ns.getD k default).data.toList)) := by
  unfold filtTo; rw [List.range_succ, List.all_append]; simp
theorem filt_no {fs ns : List ByteArray} {k n : Nat} (h : (isE (fs.getD k default) || (fs.getD k default).data.toList == (ns.getD k default).data.toList) = false) (hk : k < n) : filtTo fs ns n = false := by
  unfold filtTo
  rw [List.all_eq_false]
  exact ⟨k, List.mem_range.2 hk, by rw [h]; exact Bool.false_ne_true⟩
theorem getD_of {α : Type} [Inhabited α] {l : List α} {k : Nat} {x : α} (h : l[k]? = some x) : l.getD k default = x := by rw [List.getD_eq_getElem?_getD, h]; rfl
theorem good_lens {r : MRule} (h : goodR r = true) : r.filter.length ≤ r.parts.length ∧ 0 < r.parts.length ∧ r.parts.length ≤ 12 ∧ r.extra.length ≤ 8 := by
  unfold goodR partsB extraB at h
  simp only [Bool.and_eq_true, decide_eq_true_eq] at h
  obtain ⟨h1, h2, h3, ⟨h4, h5, h6, h7⟩, h8, h9⟩ := h
  refine ⟨h2, ?_, h6, by omega⟩
  rcases Nat.eq_zero_or_pos r.parts.length with h0 | h0
  · rw [List.length_eq_zero_iff.1 h0] at h5; cases h5
  · exact h0
set_option maxRecDepth 100000 in
set_option maxHeartbeats 3200000 in
theorem match_any (x : VRule) (p : ByteArray) (m : Int) (w : World) (h : RuleAt w w.heap.size x) (ok : RuleOk x.rule) (hm : MxAt w m) (hs : p.size ≤ 1048576) :
    Calls Tryz.prog 10 #[.agg #[.slice x.fA x.rule.filter.length x.fC, .slice x.pA x.rule.parts.length x.pC, .slice x.eA x.rule.extra.length x.eC], .string p] w fun e w' => e = .returned (.bool (matchT x.rule p)) ∧ Below w.heap.size w w' := by
  have hm0 : MxAt (w.alloc (.cells #[.slice x.fA x.rule.filter.length x.fC, .slice x.pA x.rule.parts.length x.pC, .slice x.eA x.rule.extra.length x.eC] 25)) m := hm.below ((Below.refl _ _).alloc (Nat.le_refl _) _)
  have hb0 : Below w.heap.size w (w.alloc (.cells #[.slice x.fA x.rule.filter.length x.fC, .slice x.pA x.rule.parts.length x.pC, .slice x.eA x.rule.extra.length x.eC] 25)) := (Below.refl _ _).alloc (Nat.le_refl _) _
  have h0 := h.bel hb0
  have kG := tgood_any x _ h0 ok
  have kS := fun W hb => split_any p m W (hm.below (w' := W) hb) hs
  have hnl := nodesT_len p
  have HB : Hid (matchT x.rule p = (goodR x.rule && (!(decide ((nodesT p).length < x.rule.parts.length) || (decide (x.rule.parts.length < (nodesT p).length) && !endless x.rule.parts)) && filtTo x.rule.filter (nodesT p) x.rule.filter.length))) := Lib.hid rfl
  have hlens := good_lens (r := x.rule)
  have hF := h0.f
  have hP := h0.p
  generalize matchT x.rule p = MV at *
  generalize goodR x.rule = G at *
  generalize nodesT p = ns at *
  clear ok h h0 hm0 hm
  obtain ⟨⟨fs, ps, es⟩, fA, fC, pA, pC, eA, eC⟩ := x
  simp only at *
  have hW := Blk.new w 25 #[.slice fA fs.length fC, .slice pA ps.length pC, .slice eA es.length eC]
  have c0 := (Blk.cell hW 0).trans rfl
  have c1 := (Blk.cell hW 1).trans rfl
  have c2 := (Blk.cell hW 2).trans rfl
  cases G
  case false =>
    clear kS
    go_enter Tryz.func10, Tryz.ntmps10
    go_wp2_with (go_at_call 17; (with_reducible refine kG.mono ?_); rintro e w1 ⟨rfl, hb1⟩; have hW1 := hW.below hb1 (Blk.lt hW))
    go_ret
    exact ⟨ret_bool (by rw [HB.out]; rfl), bl_any hb0 hb1⟩
  case true =>
    obtain ⟨hfp, hp0, hp12, _⟩ := hlens rfl
    have kE := fun W (hr : IsRows strCell 1 W W.heap.size pA ps.length ps) => endless_any pA ps.length pC ps W.heap.size W hr hp0 (by omega)
    by_cases ha : ns.length < ps.length
    · have dA : decide ((ns.length : Int) < (ps.length : Int)) = true := decide_eq_true (by omega)
      have dA2 : decide (ns.length < ps.length) = true := decide_eq_true ha
      clear kE
      go_enter Tryz.func10, Tryz.ntmps10
      go_wp2_with (first | (go_at_call 17; (with_reducible refine kG.mono ?_); rintro e w1 ⟨rfl, hb1⟩; have hW1 := hW.below hb1 (Blk.lt hW)) | (go_at_call 13; (with_reducible refine (kS _ (bl_any hb0 hb1)).mono ?_); rintro e w2 ⟨rfl, hr2, hb2⟩; have hW2 := hW1.below hb2 (Blk.lt hW1); have d0 := (Blk.cell hW2 0).trans rfl; have d1 := (Blk.cell hW2 1).trans rfl; have d2 := (Blk.cell hW2 2).trans rfl))
      go_ret
      exact ⟨ret_bool (by rw [HB.out, dA2]; rfl), bl_any (bl_any hb0 hb1) hb2⟩
    · have dA : decide ((ns.length : Int) < (ps.length : Int)) = false := decide_eq_false (by omega)
      have dA2 : decide (ns.length < ps.length) = false := decide_eq_false ha
      rw [dA2] at HB
      have hcase : (decide (ps.length < ns.length) = true ∧ endless ps = false) ∨ (decide (ps.length < ns.length) = false) ∨ (decide (ps.length < ns.length) = true ∧ endless ps = true) := by
        cases decide (ps.length < ns.length) <;> cases endless ps <;> simp
      rcases hcase with ⟨hq, he⟩ | hq | ⟨hq, he⟩
      · have dB : decide ((ps.length : Int) < (ns.length : Int)) = true := by rw [decide_eq_true_eq] at hq; exact decide_eq_true (by omega)
        rw [he] at kE HB
        rw [hq] at HB
        clear he
        go_enter Tryz.func10, Tryz.ntmps10
        go_wp2_with (first | (go_at_call 17; (with_reducible refine kG.mono ?_); rintro e w1 ⟨rfl, hb1⟩; have hW1 := hW.below hb1 (Blk.lt hW)) | (go_at_call 13; (with_reducible refine (kS _ (bl_any hb0 hb1)).mono ?_); rintro e w2 ⟨rfl, hr2, hb2⟩; have hW2 := hW1.below hb2 (Blk.lt hW1); have d0 := (Blk.cell hW2 0).trans rfl; have d1 := (Blk.cell hW2 1).trans rfl; have d2 := (Blk.cell hW2 2).trans rfl) | (go_at_call 21; (with_reducible refine (kE _ ((hP.bel hb1).bel hb2)).mono ?_); rintro e w3 ⟨rfl, hw3⟩; rw [hw3]; clear hw3 w3))
        go_ret
        exact ⟨ret_bool (by rw [HB.out]; rfl), bl_any (bl_any hb0 hb1) hb2⟩
      all_goals
        try rw [he] at kE
        have HF : Hid (MV = filtTo fs ns fs.length) := Lib.hid (by rw [HB.out, hq]; (try rw [he]); simp)
        try clear he
        have dB : decide ((ps.length : Int) < (ns.length : Int)) = decide (ps.length < ns.length) := decide_eq_decide.2 (by omega)
        rw [hq] at dB
        clear HB
        go_enter Tryz.func10, Tryz.ntmps10
        go_wp2_with (first | (go_at_call 17; (with_reducible refine kG.mono ?_); rintro e w1 ⟨rfl, hb1⟩; have hW1 := hW.below hb1 (Blk.lt hW)) | (go_at_call 13; (with_reducible refine (kS _ (bl_any hb0 hb1)).mono ?_); rintro e w2 ⟨rfl, hr2, hb2⟩; have hW2 := hW1.below hb2 (Blk.lt hW1); have d0 := (Blk.cell hW2 0).trans rfl; have d1 := (Blk.cell hW2 1).trans rfl; have d2 := (Blk.cell hW2 2).trans rfl) | (go_at_call 21; (with_reducible refine (kE _ ((hP.bel hb1).bel hb2)).mono ?_); rintro e w3 ⟨rfl, hw3⟩; rw [hw3]; clear hw3 w3))
        have hF2 := (hF.bel hb1).bel hb2
        have hbb := bl_any (bl_any hb0 hb1) hb2
        clear kG kS kE hF hP
        go_loop [36] (fun i => ∃ k : Nat, k ≤ fs.length ∧ i = .int .i64 k ∧ Hid (filtTo fs ns k = true)) (fun i => fs.length - (intOf i).toNat)
        case atStart => exact ⟨0, by omega, rfl, Lib.hid rfl⟩
        case round =>
          obtain ⟨k, hk, rfl, HG⟩ := hrel
          by_cases hlt : k < fs.length
          · have hdk : decide ((k : Int) < (fs.length : Int)) = true := decide_eq_true (by omega)
            have hk0 : (0 : Int) ≤ k := by omega
            have hk1 : (k : Int) < (fs.length : Int) := by omega
            have hk2 : (k : Int) < (ns.length : Int) := by omega
            obtain ⟨b, off, f1, rfl, _, hx, e0⟩ := str_at hF2 hlt
            obtain ⟨b2, off2, n1, hAA, _, hy, e1⟩ := str_at hr2 (show k < ns.length by omega)
            injection hAA with hAA
            injection hAA with hA1 hA2
            subst hA1; subst hA2
            have HS := Lib.hid (filt_succ fs ns k)
            have HX : Hid ((isE (fs.getD k default) || (fs.getD k default).data.toList == (ns.getD k default).data.toList) = ((f1.toList == [42]) || (f1.toList == n1.toList))) := Lib.hid (by
              rw [getD_of hx, getD_of hy]; unfold isE; rw [ByteArray.toList_eq, ByteArray.toList_eq])
            clear hx hy
            simp only [Nat.zero_add] at e1
            cases hq1 : (f1.toList == [42])
            · cases hq2 : (f1.toList == n1.toList)
              · have HN : Hid (MV = false) := Lib.hid (by rw [HF.out]; exact filt_no (k := k) (by rw [HX.out, hq1, hq2]; rfl) hlt)
                clear HS HX HG
                go_wp2_with fail
                go_ret
                exact ⟨ret_bool HN.out.symm, hbb⟩
              · have HN : Hid (filtTo fs ns (k + 1) = true) := Lib.hid (by rw [HS.out, HG.out, HX.out, hq1, hq2]; rfl)
                clear HS HX HG
                go_wp2_with fail
                exact ⟨⟨k + 1, by omega, rfl, HN⟩, by (simp only [intOf]; omega)⟩
            · have HN : Hid (filtTo fs ns (k + 1) = true) := Lib.hid (by rw [HS.out, HG.out, HX.out, hq1]; rfl)
              clear HS HX HG
              go_wp2_with fail
              exact ⟨⟨k + 1, by omega, rfl, HN⟩, by (simp only [intOf]; omega)⟩
          · have hdk : decide ((k : Int) < (fs.length : Int)) = false := decide_eq_false (by omega)
            have HN : Hid (MV = true) := Lib.hid (by rw [HF.out, ← HG.out]; congr 1; omega)
            clear HG
            go_wp2_with fail
            go_ret
            exact ⟨ret_bool HN.out.symm, hbb⟩
end Go.Proofs.YtodgfapgmmjpcaaGreatDoor
