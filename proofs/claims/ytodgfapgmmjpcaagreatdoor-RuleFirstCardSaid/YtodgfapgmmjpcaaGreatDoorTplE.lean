/- The walks of package template: a path put together again. -/
import Derived.Test.YtodgfapgmmjpcaaGreatDoorTplD
import Derived.Deep.RegionHeld3
namespace Go.Proofs.YtodgfapgmmjpcaaGreatDoor
set_option linter.unusedVariables false
set_option linter.unusedSimpArgs false
open Go.RowKit
theorem path_K {L : List Lab} {p : ByteArray} {ps ns out : List ByteArray} (h : isK p = true) : pathGo L (p :: ps) ns out = ([], false) := by rw [pathGo, if_pos h]
theorem path_0 {L : List Lab} {p : ByteArray} {ps ns out : List ByteArray} (hk : isK p = false) (h : (isM p || isT p) = true) (h0 : ns.length = 0) : pathGo L (p :: ps) ns out = ([], false) := by
  rw [pathGo, if_neg (by rw [hk]; simp), if_pos (by rw [h, List.length_eq_zero_iff.1 h0]; rfl)]
theorem path_T {L : List Lab} {p : ByteArray} {ps ns out : List ByteArray} (hk : isK p = false) (h : isT p = true) (h0 : 0 < ns.length) : pathGo L (p :: ps) ns out = pathGo L ps [] (out ++ ns) := by
  have hn : ns ≠ [] := fun e => by rw [e] at h0; simp at h0
  rw [pathGo, if_neg (by rw [hk]; simp), if_neg (by simp [hn]), if_pos h]
theorem path_M {L : List Lab} {p : ByteArray} {ps ns out : List ByteArray} {y : ByteArray} (hk : isK p = false) (ht : isT p = false) (h : isM p = true) (h0 : ns[0]? = some y) : pathGo L (p :: ps) ns out = pathGo L ps ns.tail (out ++ [y]) := by
  cases ns with
  | nil => simp at h0
  | cons z r =>
    simp only [List.getElem?_cons_zero, Option.some.injEq] at h0
    subst h0
    rw [pathGo, if_neg (by rw [hk]; simp), if_neg (by simp), if_neg (by rw [ht]; simp), if_pos h]; rfl
theorem path_L {L : List Lab} {p : ByteArray} {ps ns out : List ByteArray} (hk : isK p = false) (ht : isT p = false) (h : isM p = false) : pathGo L (p :: ps) ns out = match getL L p.data.toList with
    | none => ([], false)
    | some x => if inksB dtNode (vlL x) then pathGo L ps ns (out ++ [x.2]) else ([], false) := by
  rw [pathGo, if_neg (by rw [hk]; simp), if_neg (by rw [h, ht]; simp), if_neg (by rw [ht]; simp), if_neg (by rw [h]; simp)]
  cases getL L p.data.toList <;> rfl
theorem path_sz {P : ByteArray → Prop} {L : List Lab} (hL : ∀ x ∈ L, P x.2) : ∀ (ps ns out : List ByteArray), (∀ z ∈ ns, P z) → (∀ z ∈ out, P z) → ∀ z ∈ (pathGo L ps ns out).1, P z
  | [], ns, out, _, ho => by rw [pathGo]; exact ho
  | p :: ps, ns, out, hn, ho => by
    rw [pathGo]
    split
    · simp
    split
    · simp
    rename_i h0
    split
    · exact path_sz hL ps [] _ (by simp) (fun z hz => by rcases List.mem_append.1 hz with h | h; exact ho z h; exact hn z h)
    split
    · rename_i hm
      cases ns with
      | nil => simp [hm] at h0
      | cons y r =>
        exact path_sz hL ps r _ (fun z hz => hn z (List.mem_cons_of_mem _ hz)) (fun z hz => by
          rcases List.mem_append.1 hz with h | h
          · exact ho z h
          · simp at h; subst h; exact hn _ (by simp))
    · split
      · simp
      · rename_i x hx
        split
        · exact path_sz hL ps ns _ hn (fun z hz => by
            rcases List.mem_append.1 hz with h | h
            · exact ho z h
            · simp at h; subst h; exact hL x (List.mem_of_find?_eq_some hx))
        · simp
theorem path_len {L : List Lab} : ∀ (ps ns out : List ByteArray), (pathGo L ps ns out).1.length ≤ out.length + ns.length + ps.length
  | [], ns, out => by rw [pathGo]; simp
  | p :: ps, ns, out => by
    rw [pathGo]
    split
    · simp
    split
    · simp
    rename_i h0
    split
    · have := path_len (L := L) ps [] (out ++ ns)
      simp at this ⊢; omega
    split
    · rename_i hm
      cases ns with
      | nil => simp [hm] at h0
      | cons y r =>
        have := path_len (L := L) ps r (out ++ [y])
        simp at this ⊢; omega
    · split
      · simp
      · split
        · rename_i x hx _
          have := path_len (L := L) ps ns (out ++ [x.2])
          simp at this ⊢; omega
        · simp
theorem getV_some (x : Lab) : getV (some x) = x.2 := rfl
/-- What path hands back. -/
structure PathE (w w' : World) (R : List ByteArray × Bool) (e : Ending) : Prop where
  e : ∃ v, e = .returned (.tuple #[v, .bool R.2]) ∧ w'.ownsRow w.heap.size 9 1 v R.1.length (R.1.flatMap strCell)
  b : Below w.heap.size w w'
set_option maxRecDepth 100000 in
set_option maxHeartbeats 6400000 in
theorem path_any (pA : Option Addr) (pn pC : Nat) (ps : List ByteArray) (nA : Option Addr) (nn nC : Nat) (ns : List ByteArray) (A : Option Addr) (n cap : Nat) (L : List Lab) (w : World)
    (hp : IsRows strCell 1 w w.heap.size pA pn ps) (hpn : pn ≤ 2097152) (hN : IsRows strCell 1 w w.heap.size nA nn ns) (hnn : nn ≤ 2097152) (hnc : nn ≤ nC) (hnC : nC ≤ 2097152) (hL : IsRows labCell 2 w w.heap.size A n L) (hn : n ≤ 2097152) (hz : ∀ x ∈ L, x.2.size ≤ 9223372036854775807) :
    Calls Tryz.prog 23 #[.slice pA pn pC, .slice nA nn nC, .slice A n cap] w fun e w' => PathE w w' (pathGo L ps ns []) e := by
  have hpl := hp.1
  have hnl := hN.1
  obtain ⟨R, hR⟩ : ∃ R, pathGo L ps ns [] = R := ⟨_, rfl⟩
  have H0 : Hid (pathGo L (ps.drop 0) ns [] = R) := Lib.hid (by rw [List.drop_zero]; exact hR)
  rw [hR]
  clear hR
  have HZ := Lib.hid hz
  clear hz
  obtain ⟨i0, hi0, hz0, hz1, hz2⟩ := info_parts Tryz.infoString
  have hu : Tryz.prog.underlying 22 = some (.slice 9) := by kernel_rfl
  have kG := fun s W (hb : Below w.heap.size w W) => get_any A n cap L s W (hL.bel hb) (by omega)
  go_enter Tryz.func23, Tryz.ntmps23
  go_wp2_with fail
  go_loopw [1, 8, 15] (fun nv ov i wr => Below w.heap.size w wr ∧ ∃ (k : Nat) (A1 : Option Addr) (c1 : Nat) (r out : List ByteArray), k ≤ pn ∧ nv = .slice A1 r.length c1 ∧ i = .int .i64 k ∧ r.length ≤ c1 ∧ c1 ≤ 2097152 ∧ out.length + r.length ≤ nn + k ∧ wr.ownsRow w.heap.size 9 1 ov out.length (out.flatMap strCell) ∧ IsRows strCell 1 w w.heap.size A1 r.length r ∧ Hid (pathGo L (ps.drop k) r out = R)) (fun _ _ i _ => pn - (intOf i).toNat)
  case atStart => exact ⟨Below.refl _ _, 0, nA, nC, ns, [], by omega, by rw [hnl], rfl, by omega, hnC, by simp; omega, World.ownsRow_nil _ _ _ _, by rw [hnl]; exact hN, H0⟩
  case round =>
    obtain ⟨hbw, k, A1, c1, r, out, hk, rfl, rfl, hrc, hc1, hol, hown, hr, HR⟩ := hrel
    clear H0
    have hws := hbw.size
    by_cases hlt : k < pn
    · have hdk : decide ((k : Int) < (pn : Int)) = true := decide_eq_true (by omega)
      have hk0 : (0 : Int) ≤ k := by omega
      have hk1 : (k : Int) < (pn : Int) := by omega
      obtain ⟨b, off, x, rfl, hgb, hx, e0⟩ := str_at (hp.bel hbw) hlt
      have HM := Lib.hid (isM_toL x)
      have HT := Lib.hid (isT_toL x)
      have HK := Lib.hid (isK_toL x)
      have HP := Lib.hid (drop_at hx)
      clear hx
      cases qK : (x.toList == [95])
      case true =>
        have HF : Hid (([], false) = R) := Lib.hid (by rw [← HR.out, HP.out, path_K (by rw [HK.out]; exact qK)])
        clear HR HM HT HK HP kG
        cases HF.out
        go_wp2_with fail
        go_ret2
        exact ⟨⟨_, rfl, World.ownsRow_nil _ _ _ _⟩, hbw⟩
      case false =>
      have hmt : ((x.toList == [109, 101, 116, 114, 105, 99]) = true ∧ (x.toList == [109, 101, 116, 114, 105, 99, 42]) = false) ∨ ((x.toList == [109, 101, 116, 114, 105, 99]) = false ∧ (x.toList == [109, 101, 116, 114, 105, 99, 42]) = true) ∨ ((x.toList == [109, 101, 116, 114, 105, 99]) = false ∧ (x.toList == [109, 101, 116, 114, 105, 99, 42]) = false) := by
        cases h1 : (x.toList == [109, 101, 116, 114, 105, 99])
        · cases h2 : (x.toList == [109, 101, 116, 114, 105, 99, 42]) <;> simp
        · left
          rw [beq_iff_eq] at h1
          rw [h1]; exact ⟨rfl, by decide⟩
      by_cases hr0 : r.length = 0
      · obtain rfl : r = [] := List.length_eq_zero_iff.1 hr0
        rcases hmt with ⟨qM, qT⟩ | ⟨qM, qT⟩ | ⟨qM, qT⟩
        · have HF : Hid (([], false) = R) := Lib.hid (by rw [← HR.out, HP.out, path_0 (by rw [HK.out]; exact qK) (by rw [HM.out, qM]; rfl) hr0])
          clear HR HM HT HK HP kG
          cases HF.out
          go_wp2_with fail
          go_ret2
          exact ⟨⟨_, rfl, World.ownsRow_nil _ _ _ _⟩, hbw⟩
        · have HF : Hid (([], false) = R) := Lib.hid (by rw [← HR.out, HP.out, path_0 (by rw [HK.out]; exact qK) (by rw [HT.out, qT]; simp) hr0])
          clear HR HM HT HK HP kG
          cases HF.out
          go_wp2_with fail
          go_ret2
          exact ⟨⟨_, rfl, World.ownsRow_nil _ _ _ _⟩, hbw⟩
        · skip
          cases hg : getL L x.data.toList
          case none =>
            have HF : Hid (([], false) = R) := Lib.hid (by rw [← HR.out, HP.out, path_L (by rw [HK.out]; exact qK) (by rw [HT.out]; exact qT) (by rw [HM.out]; exact qM), hg])
            have kG2 := kG x wr hbw
            rw [hg] at kG2
            clear HR HM HT HK HP kG hg
            cases HF.out
            go_wp2_with (go_at_call 25; (with_reducible refine kG2.mono ?_); rintro e w5 ⟨rfl, hb5⟩)
            go_ret2
            exact ⟨⟨_, rfl, World.ownsRow_nil _ _ _ _⟩, bl_any hbw hb5⟩
          case some z =>
            have kG2 := kG x wr hbw
            rw [hg, getV_some] at kG2
            have kI := fun W => inks_node z.2 W (HZ.out z (List.mem_of_find?_eq_some hg))
            have HV : Hid (vlL z = z.2.data.toList) := Lib.hid rfl
            cases qI : inksB dtNode z.2.data.toList
            · have HF : Hid (([], false) = R) := Lib.hid (by rw [← HR.out, HP.out, path_L (by rw [HK.out]; exact qK) (by rw [HT.out]; exact qT) (by rw [HM.out]; exact qM), hg]; simp only; rw [HV.out, qI]; rfl)
              rw [qI] at kI
              clear HR HM HT HK HP kG hg HV qI
              cases HF.out
              go_wp2_with (first
                | (go_at_call 25; (with_reducible refine kG2.mono ?_); rintro e w5 ⟨rfl, hb5⟩)
                | (go_at_call 49; (with_reducible refine (kI _).mono ?_); rintro e w6 ⟨rfl, hw6⟩; rw [hw6]; clear hw6 w6))
              go_ret2
              exact ⟨⟨_, rfl, World.ownsRow_nil _ _ _ _⟩, bl_any hbw hb5⟩
            · have HF : Hid (pathGo L (ps.drop (k + 1)) [] (out ++ [z.2]) = R) := Lib.hid (by rw [← HR.out, HP.out, path_L (by rw [HK.out]; exact qK) (by rw [HT.out]; exact qT) (by rw [HM.out]; exact qM), hg]; simp only; rw [HV.out, qI]; rfl)
              rw [qI] at kI
              generalize z.2 = y at *
              clear HR HM HT HK HP kG hg HV qI
              go_wp2_with (first
                | (go_at_call 25; (with_reducible refine kG2.mono ?_); rintro e w5 ⟨rfl, hb5⟩; have hown5 := own_bel hown hb5; have hs5 := hb5.size)
                | (go_at_call 49; (with_reducible refine (kI _).mono ?_); rintro e w6 ⟨rfl, hw6⟩; rw [hw6]; clear hw6 w6)
                | (at_builtin; go_loud (refine wpList_append_lies _ (by rfl) _ _ _ (by rfl) w.heap.size 9 i0 _ 1 16 hu hi0 hz0 hz1 hz2 rfl (by omega) _ out.length (out.flatMap strCell) (by rfl) (hown5.alloc _) ⟨w5.heap.size, 0, none⟩ 1 1 [.string y] (by rfl) (by rfl) (World.news_of_block (blk_at (by simp))) (by simp [Value.oneCell']) (by omega) (by simp [maxLen]; omega) (by omega) (by simp; omega) (w5.heap.size + 1) (by simp) ?_); intro gg capg w4 hown4 hgrow hat hlt4))
              exact ⟨⟨(bl_alloc (bl_any hbw hb5) _).grown hgrow (by simp; omega) (fun j e => (hown5.lt _ e).1), k + 1, A1, c1, [], out ++ [y], by omega, rfl, rfl, hrc, hc1, by simp; omega, by rw [List.length_append, List.flatMap_append]; exact hown4, hr, HF⟩, by (simp only [intOf]; omega)⟩
      · have hq0 : ((r.length : Int) == 0) = false := by rw [beq_eq_false_iff_ne]; omega
        have hq1 : (r.length == 0) = false := by rw [beq_eq_false_iff_ne]; omega
        rcases hmt with ⟨qM, qT⟩ | ⟨qM, qT⟩ | ⟨qM, qT⟩
        · obtain ⟨b2, off2, y, rfl, hgb2, hy, e1⟩ := str_at hr (show 0 < r.length by omega)
          have HF : Hid (pathGo L (ps.drop (k + 1)) r.tail (out ++ [y]) = R) := Lib.hid (by rw [← HR.out, HP.out, path_M (by rw [HK.out]; exact qK) (by rw [HT.out]; exact qT) (by rw [HM.out]; exact qM) hy])
          have e2 := (hbw.cell (p := ⟨b2, off2 + 0, none⟩) hgb2).trans e1
          simp only [Nat.add_zero] at e2
          have hr1 : (1 : Int) ≤ r.length := by omega
          have hr2 : (0 : Int) < r.length := by omega
          have hr3 : 0 < r.length := by omega
          have hr4 : 1 ≤ r.length := by omega
          have hcut := rows_cut 1 hr
          clear HR HM HT HK HP kG hy e1
          have hlr : r.tail.length = r.length - 1 := List.length_tail
          by_cases hc : c1 = 1
          · subst hc
            go_wp2_with fail
            go_region_law (refine step_append_lies _ (by rfl) _ _ _ (by rfl) w.heap.size 9 i0 _ 1 16 hu hi0 hz0 hz1 hz2 rfl (by omega) _ out.length (out.flatMap strCell) (by rfl) (World.ownsRow.alloc (World.ownsRow.drew hown) _) ⟨wr.heap.size, 0, none⟩ 1 1 [.string y] (by rfl) (by rfl) (World.news_of_block (heap_alloc_new wr.drew _)) (by simp [Value.oneCell']) (by omega) (by simp [maxLen]; omega) (by omega) (by simp; omega) (wr.heap.size + 1) (by simp) ?_; intro gg capg w4 hown4 hgrow hat hlt4)
            all_goals
              go_wp2_with fail
              exact ⟨⟨(bl_alloc hbw.drew _).grown hgrow (by simp; omega) (fun j e => (hown.lt _ e).1), k + 1, some ⟨b2, off2, none⟩, 0, r.tail, out ++ [y], by omega, by rw [hlr, (by omega : r.length - 1 = 0)], rfl, by omega, by omega, by rw [hlr]; simp; omega, by rw [List.length_append, List.flatMap_append]; exact hown4, ⟨rfl, fun h => by omega⟩, HF⟩, by (simp only [intOf]; omega)⟩
          · go_wp2_with fail
            go_region_law (refine step_append_lies _ (by rfl) _ _ _ (by rfl) w.heap.size 9 i0 _ 1 16 hu hi0 hz0 hz1 hz2 rfl (by omega) _ out.length (out.flatMap strCell) (by rfl) (World.ownsRow.alloc (World.ownsRow.drew hown) _) ⟨wr.heap.size, 0, none⟩ 1 1 [.string y] (by rfl) (by rfl) (World.news_of_block (heap_alloc_new wr.drew _)) (by simp [Value.oneCell']) (by omega) (by simp [maxLen]; omega) (by omega) (by simp; omega) (wr.heap.size + 1) (by simp) ?_; intro gg capg w4 hown4 hgrow hat hlt4)
            all_goals
              go_wp2_with fail
              exact ⟨⟨(bl_alloc hbw.drew _).grown hgrow (by simp; omega) (fun j e => (hown.lt _ e).1), k + 1, _, c1 - 1, r.tail, out ++ [y], by omega, by rw [hlr], rfl, by omega, by omega, by rw [hlr]; simp; omega, by rw [List.length_append, List.flatMap_append]; exact hown4, by rw [hlr, ← List.drop_one]; exact hcut, HF⟩, by (simp only [intOf]; omega)⟩
        · have HF : Hid (pathGo L (ps.drop (k + 1)) [] (out ++ r) = R) := Lib.hid (by rw [← HR.out, HP.out, path_T (by rw [HK.out]; exact qK) (by rw [HT.out]; exact qT) (by omega)])
          have hr2 := hr.below hbw
          clear HR HM HT HK HP kG
          go_wp2_with (at_builtin; go_loud (refine wpList_append_any _ (by rfl) _ _ _ (by rfl) w.heap.size 9 i0 _ 1 16 hu hi0 hz0 hz1 hz2 rfl (by omega) _ out.length (out.flatMap strCell) (by rfl) hown w.heap.size _ r.length _ _ (by rfl) (strs_reads hr2) (strs_one r) (by simp [maxLen]; omega) (by omega) (by omega) ?_); intro v4 w4 hown4 hgrow hat4)
          exact ⟨⟨hbw.grown hgrow (by omega) (fun j e => (hown.lt _ e).1), k + 1, none, 0, [], out ++ r, by omega, rfl, rfl, by simp, by omega, by simp; omega, by rw [List.length_append, List.flatMap_append]; exact hown4, IsRows.nil_, HF⟩, by (simp only [intOf]; omega)⟩
        · skip
          cases hg : getL L x.data.toList
          case none =>
            have HF : Hid (([], false) = R) := Lib.hid (by rw [← HR.out, HP.out, path_L (by rw [HK.out]; exact qK) (by rw [HT.out]; exact qT) (by rw [HM.out]; exact qM), hg])
            have kG2 := kG x wr hbw
            rw [hg] at kG2
            clear HR HM HT HK HP kG hg
            cases HF.out
            go_wp2_with (go_at_call 25; (with_reducible refine kG2.mono ?_); rintro e w5 ⟨rfl, hb5⟩)
            go_ret2
            exact ⟨⟨_, rfl, World.ownsRow_nil _ _ _ _⟩, bl_any hbw hb5⟩
          case some z =>
            have kG2 := kG x wr hbw
            rw [hg, getV_some] at kG2
            have kI := fun W => inks_node z.2 W (HZ.out z (List.mem_of_find?_eq_some hg))
            have HV : Hid (vlL z = z.2.data.toList) := Lib.hid rfl
            cases qI : inksB dtNode z.2.data.toList
            · have HF : Hid (([], false) = R) := Lib.hid (by rw [← HR.out, HP.out, path_L (by rw [HK.out]; exact qK) (by rw [HT.out]; exact qT) (by rw [HM.out]; exact qM), hg]; simp only; rw [HV.out, qI]; rfl)
              rw [qI] at kI
              clear HR HM HT HK HP kG hg HV qI
              cases HF.out
              go_wp2_with (first
                | (go_at_call 25; (with_reducible refine kG2.mono ?_); rintro e w5 ⟨rfl, hb5⟩)
                | (go_at_call 49; (with_reducible refine (kI _).mono ?_); rintro e w6 ⟨rfl, hw6⟩; rw [hw6]; clear hw6 w6))
              go_ret2
              exact ⟨⟨_, rfl, World.ownsRow_nil _ _ _ _⟩, bl_any hbw hb5⟩
            · have HF : Hid (pathGo L (ps.drop (k + 1)) r (out ++ [z.2]) = R) := Lib.hid (by rw [← HR.out, HP.out, path_L (by rw [HK.out]; exact qK) (by rw [HT.out]; exact qT) (by rw [HM.out]; exact qM), hg]; simp only; rw [HV.out, qI]; rfl)
              rw [qI] at kI
              generalize z.2 = y at *
              clear HR HM HT HK HP kG hg HV qI
              go_wp2_with (first
                | (go_at_call 25; (with_reducible refine kG2.mono ?_); rintro e w5 ⟨rfl, hb5⟩; have hown5 := own_bel hown hb5; have hs5 := hb5.size)
                | (go_at_call 49; (with_reducible refine (kI _).mono ?_); rintro e w6 ⟨rfl, hw6⟩; rw [hw6]; clear hw6 w6)
                | (at_builtin; go_loud (refine wpList_append_lies _ (by rfl) _ _ _ (by rfl) w.heap.size 9 i0 _ 1 16 hu hi0 hz0 hz1 hz2 rfl (by omega) _ out.length (out.flatMap strCell) (by rfl) (hown5.alloc _) ⟨w5.heap.size, 0, none⟩ 1 1 [.string y] (by rfl) (by rfl) (World.news_of_block (blk_at (by simp))) (by simp [Value.oneCell']) (by omega) (by simp [maxLen]; omega) (by omega) (by simp; omega) (w5.heap.size + 1) (by simp) ?_); intro gg capg w4 hown4 hgrow hat hlt4))
              exact ⟨⟨(bl_alloc (bl_any hbw hb5) _).grown hgrow (by simp; omega) (fun j e => (hown5.lt _ e).1), k + 1, A1, c1, r, out ++ [y], by omega, rfl, rfl, hrc, hc1, by simp; omega, by rw [List.length_append, List.flatMap_append]; exact hown4, hr, HF⟩, by (simp only [intOf]; omega)⟩
    · have hdk : decide ((k : Int) < (pn : Int)) = false := decide_eq_false (by omega)
      have hR := HR.out
      rw [List.drop_of_length_le (by omega), pathGo] at hR
      subst hR
      have hq : ((r.length : Int) == 0) = decide (r = []) := by
        apply bcl
        rw [beq_iff_eq, decide_eq_true_eq, ← List.length_eq_zero_iff]
        omega
      clear HR kG
      go_wp2_with fail
      go_ret2
      exact ⟨⟨_, by simp only; rw [← hq]; rfl, hown⟩, hbw⟩
/-! ### Invert -/
theorem own_lower {w : World} {base base' : Nat} {e : TypeId} {size : Nat} {v : Value} {n : Nat} {xs : List Value} (h : w.ownsRow base' e size v n xs) (hb : base ≤ base') : w.ownsRow base e size v n xs := by
  obtain ⟨hl, h | ⟨g, cap, cur, hv, hg, r⟩⟩ := h
  · exact ⟨hl, .inl h⟩
  · exact ⟨hl, .inr ⟨g, cap, cur, hv, by omega, r⟩⟩
structure IV (w0 w : World) (g : Nat) (cs : Array Value) : Prop where
  bl : Below w0.heap.size w0 w
  bk : Blk w g 25 cs
section
variable {w0 w w' : World} {g : Nat} {cs : Array Value}
theorem IV.call (h : IV w0 w g cs) (a : Below w.heap.size w w') : IV w0 w' g cs := ⟨bl_any h.bl a, h.bk.below a (Blk.lt h.bk)⟩
theorem IV.drew (h : IV w0 w g cs) : IV w0 w.drew g cs := ⟨h.bl.drew, h.bk.drew⟩
theorem IV.fs {a b c : Value} (h : IV w0 w g #[a, b, c]) : w.cell? ⟨g, 1, none⟩ = some b ∧ IV w0 w g #[a, b, c] := ⟨(Blk.cell h.bk 1).trans rfl, h⟩
end
/-- What Invert hands back. -/
structure InvertE (w w' : World) (R : ByteArray × List Lab × Bool) (e : Ending) : Prop where
  e : ∃ A n c, e = .returned (.tuple #[.string R.1, .slice A n c, .bool R.2.2]) ∧ IsRows labCell 2 w' w'.heap.size A n R.2.1
  b : Below w.heap.size w w'
theorem hasX_none {L : List Lab} {x : Lab} (h : getL L (nmL x) = none) : hasX L x = false := by unfold hasX; rw [h]
theorem hasX_some {L : List Lab} {x y : Lab} (h : getL L (nmL x) = some y) : hasX L x = (vlL y == vlL x) := by unfold hasX; rw [h]
theorem all_take {es : List Lab} {k : Nat} {x : Lab} (h : es[k]? = some x) (p : Lab → Bool) : (es.take (k + 1)).all p = ((es.take k).all p && p x) := by
  rw [List.take_add_one, h, List.all_append]; simp
theorem map_take {es : List Lab} {k : Nat} {x : Lab} (h : es[k]? = some x) : (es.take (k + 1)).map (·.1) = (es.take k).map (·.1) ++ [x.1] := by
  rw [List.take_add_one, h, List.map_append]; simp
set_option maxRecDepth 100000 in
set_option maxHeartbeats 6400000 in
theorem invert_any (x : VRule) (p : ByteArray) (A : Option Addr) (n cap : Nat) (L : List Lab) (m : Int) (w : World) (h : RuleAt w w.heap.size x) (ok : RuleOk x.rule) (hm : MxAt w m) (hs : p.size ≤ 512) (hL : IsRows labCell 2 w w.heap.size A n L) (hn : n ≤ 1048576) (hz : ∀ x ∈ L, x.2.size ≤ 512) :
    Calls Tryz.prog 12 #[.agg #[.slice x.fA x.rule.filter.length x.fC, .slice x.pA x.rule.parts.length x.pC, .slice x.eA x.rule.extra.length x.eC], .string p, .slice A n cap] w fun e w' => InvertE w w' (invertT x.rule p L) e := by
  have hb0 : Below w.heap.size w (w.alloc (.cells #[.slice x.fA x.rule.filter.length x.fC, .slice x.pA x.rule.parts.length x.pC, .slice x.eA x.rule.extra.length x.eC] 25)) := (Below.refl _ _).alloc (Nat.le_refl _) _
  have kG := tgood_any x _ (h.bel hb0) ok
  have hbk0 := Blk.new w 25 #[.slice x.fA x.rule.filter.length x.fC, .slice x.pA x.rule.parts.length x.pC, .slice x.eA x.rule.extra.length x.eC]
  have IV0 : IV w (w.alloc (.cells #[.slice x.fA x.rule.filter.length x.fC, .slice x.pA x.rule.parts.length x.pC, .slice x.eA x.rule.extra.length x.eC] 25)) w.heap.size #[.slice x.fA x.rule.filter.length x.fC, .slice x.pA x.rule.parts.length x.pC, .slice x.eA x.rule.extra.length x.eC] := ⟨hb0, hbk0⟩
  have hI : Hid (invertT x.rule p L = if goodR x.rule && ((pathGo L x.rule.parts (nodesT p) []).2 && (x.rule.extra.all (hasX L) && matchT x.rule (joinT (pathGo L x.rule.parts (nodesT p) []).1))) then
    (joinT (pathGo L x.rule.parts (nodesT p) []).1, outL L (ownT x.rule), true) else (mkS [], [], false)) := Lib.hid rfl
  by_cases hg : goodR x.rule = true
  case neg =>
    have hg' : goodR x.rule = false := by simpa using hg
    rw [hg'] at kG hI
    have HF : Hid (invertT x.rule p L = (mkS [], [], false)) := Lib.hid (by rw [hI.out]; rfl)
    rw [HF.out]
    clear hI hg hg' IV0 hbk0 HF
    go_enter Tryz.func12, Tryz.ntmps12
    go_wp2_with (go_at_call 17; (with_reducible refine kG.mono ?_); rintro e w1 ⟨rfl, hb1⟩)
    go_ret3
    exact ⟨⟨_, _, _, rfl, IsRows.nil_⟩, bl_any hb0 hb1⟩
  case pos =>
  rw [hg] at kG hI
  obtain ⟨_, hp0, hp12, hx8⟩ := good_lens hg
  have hnl := nodesT_len p
  have hnl2 : (nodesT p).length ≤ 513 := by omega
  have hplen := path_len (L := L) x.rule.parts (nodesT p) []
  have hpsz := path_sz (P := fun z => z.size ≤ 512) (L := L) hz x.rule.parts (nodesT p) [] (fun z hz2 => Nat.le_trans (nodesT_sz hz2) hs) (by simp)
  have hjs := joinT_le 512 _ hpsz
  have hjn : (joinT (pathGo L x.rule.parts (nodesT p) []).1).size ≤ 1048576 := by
    simp only [List.length_nil, Nat.zero_add] at hplen
    have : (pathGo L x.rule.parts (nodesT p) []).1.length * (512 + 1) ≤ 600 * (512 + 1) := Nat.mul_le_mul_right _ (by omega)
    omega
  have kS : ∀ W, (W.cell? ⟨w.heap.size, 1, none⟩ = some (.slice x.pA x.rule.parts.length x.pC) ∧ IV w W w.heap.size #[.slice x.fA x.rule.filter.length x.fC, .slice x.pA x.rule.parts.length x.pC, .slice x.eA x.rule.extra.length x.eC]) →
      Calls Tryz.prog 13 #[.string p] W fun e w' => (e = .returned (.slice (some ⟨W.heap.size, 0, none⟩) (nodesT p).length (nodesT p).length) ∧ IsRows strCell 1 w' w'.heap.size (some ⟨W.heap.size, 0, none⟩) (nodesT p).length (nodesT p)) ∧ (w'.cell? ⟨w.heap.size, 1, none⟩ = some (.slice x.pA x.rule.parts.length x.pC) ∧ IV w w' w.heap.size #[.slice x.fA x.rule.filter.length x.fC, .slice x.pA x.rule.parts.length x.pC, .slice x.eA x.rule.extra.length x.eC]) :=
    fun W hS => (split_any p m W (hm.below hS.2.bl) (by omega)).mono fun e w' ⟨h1, h2, h3⟩ => ⟨⟨h1, h2⟩, (hS.2.call h3).fs⟩
  have kP : ∀ W B, B = W.heap.size → ∀ nA, IsRows strCell 1 W B nA (nodesT p).length (nodesT p) → (W.cell? ⟨w.heap.size, 1, none⟩ = some (.slice x.pA x.rule.parts.length x.pC) ∧ IV w W w.heap.size #[.slice x.fA x.rule.filter.length x.fC, .slice x.pA x.rule.parts.length x.pC, .slice x.eA x.rule.extra.length x.eC]) →
      Calls Tryz.prog 23 #[.slice x.pA x.rule.parts.length x.pC, .slice nA (nodesT p).length (nodesT p).length, .slice A n cap] W fun e w' => (∃ v, e = .returned (.tuple #[v, .bool (pathGo L x.rule.parts (nodesT p) []).2]) ∧ w'.ownsRow w.heap.size 9 1 v (pathGo L x.rule.parts (nodesT p) []).1.length ((pathGo L x.rule.parts (nodesT p) []).1.flatMap strCell)) ∧ (w'.cell? ⟨w.heap.size, 1, none⟩ = some (.slice x.pA x.rule.parts.length x.pC) ∧ IV w w' w.heap.size #[.slice x.fA x.rule.filter.length x.fC, .slice x.pA x.rule.parts.length x.pC, .slice x.eA x.rule.extra.length x.eC]) := by
    intro W B hB nA hr hS
    subst hB
    refine (path_any x.pA x.rule.parts.length x.pC x.rule.parts nA (nodesT p).length (nodesT p).length (nodesT p) A n cap L W (h.bel hS.2.bl).p ok.p.1 hr (by omega) (Nat.le_refl _) (by omega) (hL.bel hS.2.bl) (by omega) (fun y hy => Nat.le_trans (hz y hy) (by decide))).mono ?_
    rintro e w' ⟨⟨v, h1, h2⟩, h3⟩
    exact ⟨⟨v, h1, own_lower h2 hS.2.bl.size⟩, (hS.2.call h3).fs⟩
  have kLb := fun W (hb : Below w.heap.size w W) => labels_any x.pA x.rule.parts.length x.pC x.rule.parts W (h.bel hb).p ok.p.1
  have kGet := fun s W (hb : Below w.heap.size w W) => get_any A n cap L s W (hL.bel hb) (by omega)
  have kM := fun W (hb : Below w.heap.size w W) => match_any x (joinT (pathGo L x.rule.parts (nodesT p) []).1) m W (h.bel hb) ok (hm.below hb) hjn
  have kW := fun W (hb : Below w.heap.size w W) A2 n2 c2 names (hr : IsRows strCell 1 W W.heap.size A2 n2 names) (hn2 : n2 ≤ 1048576) => without_any A n cap L A2 n2 c2 names W (hL.bel hb) (by omega) hr hn2
  have hE := h.e
  have hown0 : ownT x.rule = lbsT x.rule.parts ++ x.rule.extra.map (·.1) := rfl
  have hll := lbsT_len x.rule.parts
  rw [hown0] at hI
  clear h ok hm hL hz hs hown0 hjs hjn
  obtain ⟨i0, hi0, hz0, hz1, hz2⟩ := info_parts Tryz.infoString
  have hu : Tryz.prog.underlying 22 = some (.slice 9) := by kernel_rfl
  generalize invertT x.rule p L = IR at *
  generalize pathGo L x.rule.parts (nodesT p) [] = PR at *
  generalize nodesT p = ns at *
  generalize lbsT x.rule.parts = ls at *
  obtain ⟨⟨fs, ps, es⟩, fA, fC, pA, pC, eA, eC⟩ := x
  simp only at *
  generalize matchT ⟨fs, ps, es⟩ (joinT PR.1) = MT at *
  generalize hfn : fs.length = fn at *
  clear hfn
  go_enter Tryz.func12, Tryz.ntmps12
  go_wp2_with (go_at_call 17; (with_reducible refine kG.mono ?_); rintro e w1 ⟨rfl, hb1⟩; have IV1 := IV0.call hb1)
  go_region_held3 (fun w' => w'.cell? ⟨w.heap.size, 1, none⟩ = some (.slice pA ps.length pC) ∧ IV w w' w.heap.size #[.slice fA fn fC, .slice pA ps.length pC, .slice eA es.length eC]) (first | (with_reducible assumption) | (with_reducible exact IV1.drew.fs)) (first
    | (go_at_call 13; (with_reducible refine (kS _ (by with_reducible assumption)).mono ?_); rintro e w2 ⟨⟨rfl, hr2⟩, hS2⟩)
    | (go_at_call 23; (with_reducible refine (kP _ _ rfl (some ⟨w1.heap.size, 0, none⟩) hr2 (by with_reducible assumption)).mono ?_); rintro e w3 ⟨⟨v3, rfl, hown3⟩, hS3⟩))
  all_goals
    rename_i hHeld
    obtain ⟨_, hIV⟩ := hHeld
    clear hS2 hS3 hr2 kS kP kG IV0 IV1 hbk0
    have c1 := (Blk.cell hIV.bk 1).trans rfl
    obtain ⟨nA, nC, rfl, hnr, hnc⟩ := own_rwc (f := strCell) (fun _ => rfl) hown3 rfl
    go_wp2_with (go_at_call 24; (with_reducible refine (kLb _ hIV.bl).mono ?_); rintro e w4 ⟨⟨v4, rfl, hown4⟩, hb4⟩; have hIV4 := hIV.call hb4; have d2 := (Blk.cell hIV4.bk 2).trans rfl)
    have hw03 := hIV.bl.size
    have H0 : Hid (ls = ls ++ (es.take 0).map (·.1) ∧ PR.2 = (PR.2 && (es.take 0).all (hasX L))) := Lib.hid ⟨by simp, by simp⟩
    clear kLb c1 hown3
    go_loopw [10, 11, 35] (fun okv ov i wr => Below w3.heap.size w3 wr ∧ ∃ (k : Nat) (b : Bool) (own : List ByteArray), k ≤ es.length ∧ okv = .bool b ∧ i = .int .i64 k ∧ own.length ≤ 12 + k ∧ wr.ownsRow w3.heap.size 9 1 ov own.length (own.flatMap strCell) ∧ Hid (own = ls ++ (es.take k).map (·.1) ∧ b = (PR.2 && (es.take k).all (hasX L)))) (fun _ _ i _ => es.length - (intOf i).toNat)
    case atStart => exact ⟨hb4, 0, PR.2, ls, by omega, rfl, rfl, by omega, hown4, H0⟩
    case round =>
      obtain ⟨hbw, k, b, own, hk, rfl, rfl, hol, hown, HR⟩ := hrel
      clear H0 hown4 d2
      have hIVr := hIV.bl.trans (hbw.mono hw03)
      have hws := hbw.size
      by_cases hlt : k < es.length
      · have hdk : decide ((k : Int) < (es.length : Int)) = true := decide_eq_true (by omega)
        have hk0 : (0 : Int) ≤ k := by omega
        have hk1 : (k : Int) < (es.length : Int) := by omega
        obtain ⟨b2, off, xn, xv, rfl, hgb, hx, e0, e1⟩ := lab_at (hE.bel hIVr) hlt
        have hBx := Blk.new wr 33 #[.string xn, .string xv]
        have hbX := bl_alloc hIVr (.cells #[.string xn, .string xv] 33)
        have f0 := (Blk.cell hBx 0).trans rfl
        have hownX := hown.alloc (.cells #[.string xn, .string xv] 33)
        have kg := kGet xn _ hbX
        have HA := Lib.hid (all_take hx (hasX L))
        have HM := Lib.hid (map_take hx)
        have hbwX := bl_alloc hbw (.cells #[.string xn, .string xv] 33)
        have HN : ∀ q, hasX L (xn, xv) = q → Hid (own ++ [xn] = ls ++ (es.take (k + 1)).map (·.1) ∧ (b && q) = (PR.2 && (es.take (k + 1)).all (hasX L))) := fun q hq => Lib.hid ⟨by rw [HM.out, HR.out.1, List.append_assoc], by rw [HA.out, hq, ← Bool.and_assoc, ← HR.out.2]⟩
        cases hgx : getL L xn.data.toList with
        | none =>
          rw [hgx] at kg
          have HF := HN _ (hasX_none (L := L) (x := (xn, xv)) hgx)
          clear HN HA HM HR hgx hx kGet kM kW
          cases b
          all_goals
            go_wp2_with (first
              | (go_at_call 25; (with_reducible refine kg.mono ?_); rintro e w5 ⟨rfl, hb5⟩; have hB5 := hBx.below hb5 (Blk.lt hBx); have g0 := (Blk.cell hB5 0).trans rfl; have g1 := (Blk.cell hB5 1).trans rfl; have hown5 := own_bel hownX hb5; have hs6 : w3.heap.size ≤ w5.heap.size := (by have hs5 := hb5.size; simp at hs5; omega))
              | (at_builtin; go_loud (refine wpList_append_lies _ (by rfl) _ _ _ (by rfl) w3.heap.size 9 i0 _ 1 16 hu hi0 hz0 hz1 hz2 rfl (by omega) _ own.length (own.flatMap strCell) (by rfl) (hown5.alloc _) ⟨w5.heap.size, 0, none⟩ 1 1 [.string xn] (by rfl) (by rfl) (World.news_of_block (blk_at (by simp))) (by simp [Value.oneCell']) (by omega) (by simp [maxLen]; omega) (by omega) (by simp; omega) (w5.heap.size + 1) (by simp) ?_); intro gg capg w6 hown6 hgrow hat hlt6))
            exact ⟨⟨(bl_alloc (hbwX.trans (hb5.mono (by simp; omega))) _).grown hgrow (by simp; omega) (fun j e => (hown5.lt _ e).1), k + 1, _, own ++ [xn], by omega, rfl, rfl, by simp; omega, by rw [List.length_append, List.flatMap_append]; exact hown6, Lib.hid (by simpa using HF.out)⟩, by (simp only [intOf]; omega)⟩
        | some y =>
          rw [hgx, getV_some] at kg
          have HF := HN _ (hasX_some (L := L) (x := (xn, xv)) hgx)
          have HV : Hid ((vlL y == vlL (xn, xv)) = (y.2.toList == xv.toList)) := Lib.hid (by rw [ByteArray.toList_eq, ByteArray.toList_eq]; rfl)
          rw [HV.out] at HF
          generalize y.2 = yv at *
          clear HN HA HM HR hgx hx HV kGet kM kW
          cases b <;> cases hq : (yv.toList == xv.toList)
          all_goals
            rw [hq] at HF
            go_wp2_with (first
              | (go_at_call 25; (with_reducible refine kg.mono ?_); rintro e w5 ⟨rfl, hb5⟩; have hB5 := hBx.below hb5 (Blk.lt hBx); have g0 := (Blk.cell hB5 0).trans rfl; have g1 := (Blk.cell hB5 1).trans rfl; have hown5 := own_bel hownX hb5; have hs6 : w3.heap.size ≤ w5.heap.size := (by have hs5 := hb5.size; simp at hs5; omega))
              | (at_builtin; go_loud (refine wpList_append_lies _ (by rfl) _ _ _ (by rfl) w3.heap.size 9 i0 _ 1 16 hu hi0 hz0 hz1 hz2 rfl (by omega) _ own.length (own.flatMap strCell) (by rfl) (hown5.alloc _) ⟨w5.heap.size, 0, none⟩ 1 1 [.string xn] (by rfl) (by rfl) (World.news_of_block (blk_at (by simp))) (by simp [Value.oneCell']) (by omega) (by simp [maxLen]; omega) (by omega) (by simp; omega) (w5.heap.size + 1) (by simp) ?_); intro gg capg w6 hown6 hgrow hat hlt6))
            exact ⟨⟨(bl_alloc (hbwX.trans (hb5.mono (by simp; omega))) _).grown hgrow (by simp; omega) (fun j e => (hown5.lt _ e).1), k + 1, _, own ++ [xn], by omega, rfl, rfl, by simp; omega, by rw [List.length_append, List.flatMap_append]; exact hown6, Lib.hid (by simpa using HF.out)⟩, by (simp only [intOf]; omega)⟩
      · have hdk : decide ((k : Int) < (es.length : Int)) = false := decide_eq_false (by omega)
        have hke : k = es.length := by omega
        obtain ⟨hO, hb⟩ := HR.out
        rw [hke, List.take_length] at hO hb
        have hI2 := hI.out
        rw [← hO, Bool.true_and, ← Bool.and_assoc, ← hb] at hI2
        have HI := Lib.hid hI2
        obtain ⟨A2, oc, rfl, hr2⟩ := own_rws (f := strCell) (fun _ => rfl) hown rfl
        have IVr := hIV.call hbw
        simp only [List.length_nil, Nat.zero_add] at hplen
        have kJ := join_any nA PR.1.length nC PR.1 w3.heap.size wr (hnr.below hbw) hbw.size (by omega) hnc (fun z hz => Nat.le_trans (hpsz z hz) (by decide))
        clear HR hI hI2 hO hb hown hpsz kGet
        cases b
        · have HF : Hid (IR = (mkS [], [], false)) := Lib.hid (by rw [HI.out]; rfl)
          have hF := HF.out
          subst hF
          clear HF HI kM kW
          go_wp2_with (go_at_call 26; (with_reducible refine kJ.mono ?_); rintro e w7 ⟨rfl, hb7⟩; have IV7 := IVr.call hb7; have d0 := (Blk.cell IV7.bk 0).trans rfl; have d1 := (Blk.cell IV7.bk 1).trans rfl; have d2 := (Blk.cell IV7.bk 2).trans rfl)
          go_ret3
          exact ⟨⟨_, _, _, rfl, IsRows.nil_⟩, IV7.bl⟩
        · have kM2 := fun W hb => kM W hb
          cases MT
          · have HF : Hid (IR = (mkS [], [], false)) := Lib.hid (by rw [HI.out]; rfl)
            have hF := HF.out
            subst hF
            clear HF HI kW
            go_wp2_with (first
              | (go_at_call 26; (with_reducible refine kJ.mono ?_); rintro e w7 ⟨rfl, hb7⟩; have IV7 := IVr.call hb7; have d0 := (Blk.cell IV7.bk 0).trans rfl; have d1 := (Blk.cell IV7.bk 1).trans rfl; have d2 := (Blk.cell IV7.bk 2).trans rfl)
              | (go_at_call 10; (with_reducible refine (kM _ IV7.bl).mono ?_); rintro e w8 ⟨rfl, hb8⟩; have IV8 := IV7.call hb8))
            go_ret3
            exact ⟨⟨_, _, _, rfl, IsRows.nil_⟩, IV8.bl⟩
          · have HF : Hid (IR = (joinT PR.1, outL L own, true)) := Lib.hid (by rw [HI.out]; rfl)
            have hF := HF.out
            subst hF
            clear HF HI
            go_wp2_with (first
              | (go_at_call 26; (with_reducible refine kJ.mono ?_); rintro e w7 ⟨rfl, hb7⟩; have IV7 := IVr.call hb7; have d0 := (Blk.cell IV7.bk 0).trans rfl; have d1 := (Blk.cell IV7.bk 1).trans rfl; have d2 := (Blk.cell IV7.bk 2).trans rfl)
              | (go_at_call 10; (with_reducible refine (kM _ IV7.bl).mono ?_); rintro e w8 ⟨rfl, hb8⟩; have IV8 := IV7.call hb8)
              | (go_at_call 27; (with_reducible refine (kW _ IV8.bl _ _ _ _ ((hr2.bel hb7).bel hb8) (by omega)).mono ?_); rintro e w9 ⟨⟨v9, rfl, hown9⟩, hb9⟩; obtain ⟨A9, c9, rfl, hr9⟩ := own_rws (f := labCell) (fun _ => rfl) hown9 rfl))
            go_ret3
            exact ⟨⟨A9, _, c9, rfl, hr9⟩, (IV8.call hb9).bl⟩
end Go.Proofs.YtodgfapgmmjpcaaGreatDoor
