/- The walks of label.Sort and of the reference's SortLabels. -/
import Derived.Test.YtcapbikelgcmmaaGreatDoorMgFa9
import Derived.Test.YtcapbikelgcmmaaGreatDoorSortK
import Derived.Shelf.SlSortCmp.NoneTotal
import Derived.WalkSpells
namespace Go.Proofs.YtcapbikelgcmmaaGreatDoor
set_option linter.unusedVariables false
set_option linter.unusedSimpArgs false
open Go.RowKit Go.Sort Go.Shelf
theorem labs_one (l : List Lab) : ∀ u ∈ l.flatMap labCell, u.oneCell' = true := by
  intro u hu
  obtain ⟨x, _, hx⟩ := List.mem_flatMap.1 hu
  simp only [labCell, List.mem_cons, List.not_mem_nil, or_false] at hx
  rcases hx with rfl | rfl <;> rfl
theorem labs_reads {w : World} {B : Nat} {A : Option Addr} {n : Nat} {l : List Lab} (h : IsRows labCell 2 w B A n l) : Reads w B 2 A n (l.flatMap labCell) := rows_reads (f := labCell) (fun _ => rfl) (by decide) h
set_option maxRecDepth 100000 in
theorem labClone_any (A : Option Addr) (n cap : Nat) (L : List Lab) (w : World) (hl : IsRows labCell 2 w w.heap.size A n L) (hn : n ≤ 1048576) :
    Calls Tryz.prog 172 #[.slice A n cap] w fun e w' => (∃ v, e = .returned v ∧ w'.ownsRow w.heap.size 183 2 v n (L.flatMap labCell)) ∧ Below w.heap.size w w' := by
  obtain ⟨i0, hi0, hz0, hz1, hz2⟩ := info_parts Tryz.infoLabel
  have hu : Tryz.prog.underlying 69 = some (.slice 183) := by kernel_rfl
  have q : ∀ (w : World) (a : Option Addr) (n c n' c' : Nat), (binOp .eql 69 (.slice a n c) (.slice none n' c')).run Tryz.prog w = .ok (.bool a.isNone) w := fun w a n c n' c' => Lib.run_eql_slice_nil w _ _ a n c n' c' hu
  cases A with
  | none =>
    have h0 : n = 0 := by
      rcases Nat.eq_zero_or_pos n with h | h
      · exact h
      · obtain ⟨_, _, e, _⟩ := hl.2 h; cases e
    subst h0
    have : L = [] := List.length_eq_zero_iff.1 hl.1
    subst this
    go_enter Tryz.func172, Tryz.ntmps172
    go_wp2_with fail
    go_ret
    exact ⟨⟨_, rfl, World.ownsRow_nil _ _ _ _⟩, Below.refl _ _⟩
  | some a =>
    go_enter Tryz.func172, Tryz.ntmps172
    go_wp2_with (at_builtin; go_loud (refine wpList_append_any _ (by rfl) (.tmp 5) (.tmp 6) _ (by rfl) w.heap.size 183 i0 _ 2 32 hu hi0 hz0 hz1 hz2 rfl (by omega) _ 0 [] (by rfl) (World.ownsRow_made w #[] 0 (Nat.le_refl _) (Nat.zero_le _) rfl) w.heap.size (some a) n cap _ (by rfl) ((labs_reads hl).below ((Below.refl _ _).alloc (Nat.le_refl _) _)) (labs_one L) (by simp [maxLen]; omega) (by omega) (by simp) ?_); intro v w1 hown hgrow hat)
    go_ret
    refine ⟨⟨v, rfl, by simpa using hown⟩, ((Below.refl _ w).alloc (Nat.le_refl _) _).grown hgrow (by simp) (by intro k hk; simp [Value.ownBlock] at hk; omega)⟩
def cmpNm (x y : Lab) : Int := Lib.compareBytes (nmL x) (nmL y)
theorem ltNm (x y : Lab) : ltOf cmpNm x y = decide (nmL x < nmL y) := by
  unfold ltOf cmpNm
  exact decide_eq_decide.2 (cmpB_neg _ _)
theorem swoNm : SWO (ltOf cmpNm) where
  irrefl x := by rw [ltNm]; exact decide_eq_false (List.lt_irrefl _)
  trans x y z h1 h2 := by rw [ltNm, decide_eq_true_eq] at *; exact List.lt_trans h1 h2
  ntrans x y z h1 h2 := by
    rw [ltNm, decide_eq_false_iff_not] at *
    exact fun h => by
      have g1 := List.not_lt.1 h1
      have g2 := List.not_lt.1 h2
      exact List.not_lt.2 (List.le_trans g2 g1) h
theorem sortLess_any (x y : Lab) (W : World) : Calls Tryz.prog 174 #[.agg (labCell x).toArray, .agg (labCell y).toArray] W fun e w' => e = .returned (.int .i64 (cmpNm x y)) ∧ ∃ q os', w' = grow (W.drewN q) os' := by
  show Calls Tryz.prog 174 #[.agg #[.string x.1, .string x.2], .agg #[.string y.1, .string y.2]] W fun e w' => e = .returned (.int .i64 (cmpNm x y)) ∧ ∃ q os', w' = grow (W.drewN q) os'
  have hc := fun W => Tryz.strings_Compare x.1 y.1 W
  have hu : cmpNm x y = Lib.compareBytes x.1.data.toList y.1.data.toList := rfl
  rw [hu]
  generalize Lib.compareBytes x.1.data.toList y.1.data.toList = r at hc
  clear hu
  go_enter Tryz.func174, Tryz.ntmps174
  go_wp2_with (go_at_call 26; refine (hc _).mono ?_; rintro e w1 ⟨rfl, rfl⟩)
  go_ret
  exact ⟨rfl, 0, _, by rw [alloc_eq_grow, alloc_eq_grow, grow_grow]; rfl⟩
/-! ### what the sorted row says -/
theorem dist_of {s : List Lab} (h1 : ∀ i j, i < j → j < s.length → ¬ nmL (s.getD j default) < nmL (s.getD i default)) (h2 : ∀ j, 1 ≤ j → j < s.length → nmL (s.getD (j - 1) default) ≠ nmL (s.getD j default)) : s.Pairwise fun x y => nmL x < nmL y := by
  rw [List.pairwise_iff_getElem]
  intro i j hi hj hij
  have e : ∀ k (hk : k < s.length), s.getD k default = s[k] := fun k hk => by rw [List.getD_eq_getElem?_getD, List.getElem?_eq_getElem hk]; rfl
  have h3 := h1 (i + 1 - 1) (i + 1) (by omega) (by omega)
  have h4 := h2 (i + 1) (by omega) (by omega)
  have h5 : nmL s[i] < nmL s[i + 1] := by
    rcases bs3 (nmL s[i]) (nmL s[i + 1]) with k | k | k
    · exact k
    · exact absurd (by rw [Nat.add_sub_cancel, e i hi, e (i + 1) (by omega)]; exact k) h4
    · rw [Nat.add_sub_cancel, e i hi, e (i + 1) (by omega)] at h3; exact absurd k h3
  by_cases ej : j = i + 1
  · subst ej; exact h5
  · have h6 := h1 (i + 1) j (by omega) hj
    rw [e j hj, e (i + 1) (by omega)] at h6
    rcases bs3 (nmL s[i + 1]) (nmL s[j]) with k | k | k
    · exact List.lt_trans h5 k
    · rw [← k]; exact h5
    · exact absurd k h6
theorem lt_of_sorted {d : Array Lab} (h : SortedIn (ltOf cmpNm) 0 d.size d) (i j : Nat) (hi : i < j) (hj : j < d.toList.length) : ¬ nmL (d.toList.getD j default) < nmL (d.toList.getD i default) := by
  have h1 := h i j (Nat.zero_le _) hi (by simpa using hj)
  rw [ltNm, decide_eq_false_iff_not] at h1
  have e : ∀ k, d.toList.getD k default = d[k]! := fun k => by
    rw [List.getD_eq_getElem?_getD, Array.getElem?_toList, getElem!_def]
    cases d[k]? <;> rfl
  rw [e, e]; exact h1
/-- What Sort tells. -/
def SortE (L : List Lab) (e : Ending) (w' : World) : Prop := ∃ (A' : Option Addr) (n' cap' : Nat), e = .returned (.tuple #[.slice A' n' cap', .bool (sortL L).isSome]) ∧ IsRows labCell 2 w' w'.heap.size A' n' ((sortL L).getD []) ∧ n' ≤ L.length
/-- What Sort tells, and that what it tells lies above a mark. -/
def SortB (B0 : Nat) (L : List Lab) (e : Ending) (w' : World) : Prop := ∃ (A' : Option Addr) (n' cap' : Nat), e = .returned (.tuple #[.slice A' n' cap', .bool (sortL L).isSome]) ∧ IsRows labCell 2 w' w'.heap.size A' n' ((sortL L).getD []) ∧ n' ≤ L.length ∧ ∀ b o, A' = some ⟨b, o, none⟩ → B0 ≤ b
theorem sortB_no {B0 : Nat} {L : List Lab} {w' : World} (h : sortL L = none) : SortB B0 L (.returned (.tuple #[.slice none 0 0, .bool false])) w' := ⟨none, 0, 0, by rw [h]; rfl, by rw [h]; exact IsRows.nil_, Nat.zero_le _, fun _ _ e => by cases e⟩
theorem sortB_yes {B0 : Nat} {L s : List Lab} {w' : World} {A : Option Addr} {n cap : Nat} (h : sortL L = some s) (hr : IsRows labCell 2 w' w'.heap.size A n s) (hn : n ≤ L.length) (hB : ∀ b o, A = some ⟨b, o, none⟩ → B0 ≤ b) : SortB B0 L (.returned (.tuple #[.slice A n cap, .bool true])) w' := ⟨A, n, cap, by rw [h]; rfl, by rw [h]; exact hr, hn, hB⟩
theorem sortE_no {L : List Lab} {w' : World} (h : sortL L = none) : SortE L (.returned (.tuple #[.slice none 0 0, .bool false])) w' := ⟨none, 0, 0, by rw [h]; rfl, by rw [h]; exact IsRows.nil_, Nat.zero_le _⟩
theorem sortE_yes {L s : List Lab} {w' : World} {A : Option Addr} {n cap : Nat} (h : sortL L = some s) (hr : IsRows labCell 2 w' w'.heap.size A n s) (hn : n ≤ L.length) : SortE L (.returned (.tuple #[.slice A n cap, .bool true])) w' := ⟨A, n, cap, by rw [h]; rfl, by rw [h]; exact hr, hn⟩
set_option maxRecDepth 100000 in
set_option maxHeartbeats 1600000 in
theorem sortB_any (A : Option Addr) (n cap : Nat) (L : List Lab) (w : World) (hl : IsRows labCell 2 w w.heap.size A n L) (hn : n ≤ 1048576) :
    Calls Tryz.prog 125 #[.slice A n cap] w fun e w' => SortB w.heap.size L e w' ∧ Below w.heap.size w w' := by
  have hcl := labClone_any A n cap L w hl hn
  have hll := hl.1
  by_cases h0 : n = 0
  · subst h0
    have hL : L = [] := List.length_eq_zero_iff.1 hl.1
    have hsL : Hid (sortL L = some []) := Lib.hid (sortL_some (by rw [hL]; exact ⟨List.Perm.refl _, List.Pairwise.nil⟩))
    clear hL
    go_enter Tryz.func125, Tryz.ntmps125
    go_wp2_with (go_at_call 172; refine hcl.mono ?_; rintro e w1 ⟨⟨v, rfl, hown⟩, hb1⟩; obtain ⟨_, ⟨rfl, _⟩ | ⟨g, c, _, rfl, hgB, _⟩⟩ := hown)
    · have hsn := fun fv W => AnyF.slices_SortFunc_none Tryz.sortLab none 0 fv W
      change ∀ fv W, Calls Tryz.prog 173 _ _ _ at hsn
      go_wp2_with (go_at_call 173; refine (hsn _ _).mono ?_; rintro e w2 ⟨rfl, rfl⟩)
      refine wp_loop_rounds 1 ?_
      rw [rounds_succ]
      go_wp2_with fail
      go_ret2
      exact ⟨sortB_yes hsL.out IsRows.nil_ (Nat.zero_le _) (by first | (intro _ _ e; cases e; done) | (intro b o e; injection e with e; injection e with e1 e2; subst e1; exact hgB)), hb1⟩
    · have hsn := fun fv W => AnyF.slices_SortFunc_none Tryz.sortLab (some ⟨g, 0, none⟩) c fv W
      change ∀ fv W, Calls Tryz.prog 173 _ _ _ at hsn
      go_wp2_with (go_at_call 173; refine (hsn _ _).mono ?_; rintro e w2 ⟨rfl, rfl⟩)
      refine wp_loop_rounds 1 ?_
      rw [rounds_succ]
      go_wp2_with fail
      go_ret2
      exact ⟨sortB_yes hsL.out IsRows.nil_ (Nat.zero_le _) (by first | (intro _ _ e; cases e; done) | (intro b o e; injection e with e; injection e with e1 e2; subst e1; exact hgB)), hb1⟩
  · go_enter Tryz.func125, Tryz.ntmps125
    go_wp2_with (go_at_call 172; refine hcl.mono ?_; rintro e w1 ⟨⟨v, rfl, hown⟩, hb1⟩; obtain ⟨g, c, rfl, hbg, hgl⟩ := hown.form (by omega))
    have hHK := holdsK_own (f := labCell) (fun _ => rfl) (by decide) hown hll
    have eg : ∀ args w, (callFunc 174 args).run Tryz.prog w = .ok (.enter 174 args) w := enters_of Tryz.func174 (by kernel_rfl) rfl
    have aE : ∀ w, (isAgg 183).run Tryz.prog w = .ok true w := fun w => by kernel_rfl
    have zE : ∀ w, (Go.sizeOf 183).run Tryz.prog w = .ok 2 w := fun w => by kernel_rfl
    have hsf := AnyQ.slices_SortFunc Tryz.sortLab 2 aE zE labCell (fun _ => rfl) (fun x v hv => by simp [labCell] at hv; rcases hv with rfl | rfl <;> rfl) cmpNm swoNm 174 #[] g 0 c L.toArray w1 eg (fun _ _ _ _ x y => sortLess_any x y _) hHK hgl (by simp; omega)
    change Calls Tryz.prog 173 _ _ _ at hsf
    have hLs : L.toArray.size = n := by simp [hll]
    rw [hLs] at hsf
    clear eg aE zE
    go_wp2_with (go_at_call 173; refine hsf.mono ?_; rintro e w2 ⟨rfl, d', m, os, hp, hs, hw2⟩; have HW := Lib.hid hw2; clear hw2)
    have hw2 := HW.out
    clear HW
    have hds : d'.size = n := hp.1.trans hLs
    have hH2 : HoldsK labCell 2 w2 g 0 d' := by rw [hw2]; exact holdsK_sortWorldK labCell 2 w1 g 0 m L.toArray d' os hgl hHK hp.1
    have hg2 : g < w2.heap.size := by rw [hw2]; exact lt_sortWorldK labCell 2 w1 g 0 m d' os hgl
    have hb2 : Below w.heap.size w w2 := by rw [hw2]; exact below_sortK hb1 hb1.size hbg
    have hr2 := rows_holdsK (f := labCell) (fun _ => rfl) hH2 hg2
    have hpm : d'.toList.Perm L := by have := perm_of (d := L.toArray) (by rw [hLs]; exact hp); simpa using this
    have hso := lt_of_sorted (d := d') (by rw [hds]; exact hs)
    clear hw2 hsf hp hs hH2 hHK hown hcl
    rw [hds] at hr2
    obtain ⟨S, hS⟩ : ∃ S, d'.toList = S := ⟨_, rfl⟩
    rw [hS] at hr2 hpm hso
    have hSl : S.length = n := hr2.1
    clear hS hds
    have HP := Lib.hid hpm
    have HO := Lib.hid hso
    clear hpm hso
    go_loopw [5] (fun i wr => Below w.heap.size w wr ∧ IsRows labCell 2 wr w2.heap.size (some ⟨g, 0, none⟩) n S ∧ w2.heap.size ≤ wr.heap.size ∧ ∃ k : Nat, 1 ≤ k ∧ k ≤ n ∧ i = .int .i64 k ∧ Hid (∀ j, 1 ≤ j → j < k → nmL (S.getD (j - 1) default) ≠ nmL (S.getD j default))) (fun i _ => n - (intOf i).toNat)
    case atStart => exact ⟨hb2, hr2, Nat.le_refl _, 1, by omega, by omega, rfl, Lib.hid (fun j h1 h2 => absurd h1 (by omega))⟩
    case round =>
      obtain ⟨hbw, hrw, hzw, k, hk1, hkn, rfl, HG⟩ := hrel
      by_cases hlt : k < n
      · have hdk : decide ((k : Int) < n) = true := decide_eq_true (by omega)
        obtain ⟨b1, off1, x, y, hA1, _, hx, e0, _⟩ := lab_at hrw hlt
        cases hA1
        obtain ⟨b2, off2, px, py, hA2, _, hpx, p0, _⟩ := lab_at hrw (show k - 1 < n by omega)
        cases hA2
        have hkm0 : (0 : Int) ≤ (k : Int) - 1 := by omega
        have hkm1 : (k : Int) - 1 < n := by omega
        have hkm2 : (1 : Int) ≤ k := by omega
        have hk0 : (0 : Int) ≤ k := by omega
        have hk3 : (k : Int) < n := by omega
        have ex : S.getD k default = (x, y) := by rw [List.getD_eq_getElem?_getD, hx]; rfl
        have ep : S.getD (k - 1) default = (px, py) := by rw [List.getD_eq_getElem?_getD, hpx]; rfl
        have EX := Lib.hid (And.intro ex ep)
        clear ex ep
        simp only [Nat.zero_add] at e0 p0
        have hw1 : IntKind.i64.wrap ((k : Int) - 1) = (k : Int) - 1 := IntWalk.i64_in _ (by omega)
        have hw2 : ((k : Int) - 1).toNat = k - 1 := by omega
        cases hq : (px.toList == x.toList)
        · have HF : Hid (∀ j, 1 ≤ j → j < k + 1 → nmL (S.getD (j - 1) default) ≠ nmL (S.getD j default)) := Lib.hid (fun j h1 h2 => by
            by_cases e : j = k
            · subst e
              rw [EX.out.1, EX.out.2]
              rw [ByteArray.toList_eq, ByteArray.toList_eq, beq_eq_false_iff_ne] at hq; exact hq
            · exact HG.out j h1 (by omega))
          clear HG
          go_wp2_with fail
          go_quiet (fail)
          clear hw1 hw2
          go_wp2_with fail
          exact ⟨⟨bl_drewN hbw _, hrw.keep (fun _ _ _ => rfl), hzw, k + 1, by omega, by omega, rfl, HF⟩, by (simp only [intOf]; omega)⟩
        · have HF : Hid (sortL L = none) := Lib.hid (sortL_none (by
            rw [← distinct_perm HP.out]
            exact distinct_two (i := k - 1) (j := k) (by omega) (by omega) (by rw [EX.out.1, EX.out.2]; rw [ByteArray.toList_eq, ByteArray.toList_eq, beq_iff_eq] at hq; exact hq)))
          clear HG
          go_wp2_with fail
          go_quiet (fail)
          go_wp2_with fail
          go_ret2
          exact ⟨sortB_no HF.out, bl_drewN hbw _⟩
      · have hdk : decide ((k : Int) < n) = false := decide_eq_false (by omega)
        obtain rfl : k = n := by omega
        have HF : Hid (sortL L = some S) := Lib.hid (sortL_some ⟨HP.out, dist_of HO.out (fun j h1 h2 => HG.out j h1 (by omega))⟩)
        clear HG HO HP
        go_wp2_with fail
        go_ret2
        exact ⟨sortB_yes HF.out (hrw.more hzw) (by omega) (by intro b o e; injection e with e; injection e with e1 e2; subst e1; exact hbg), hbw⟩
theorem sort_any (A : Option Addr) (n cap : Nat) (L : List Lab) (w : World) (hl : IsRows labCell 2 w w.heap.size A n L) (hn : n ≤ 1048576) :
    Calls Tryz.prog 125 #[.slice A n cap] w fun e w' => SortE L e w' ∧ Below w.heap.size w w' :=
  (sortB_any A n cap L w hl hn).mono fun e w' ⟨⟨A', n', cap', h1, h2, h3, _⟩, h5⟩ => ⟨⟨A', n', cap', h1, h2, h3⟩, h5⟩
end Go.Proofs.YtcapbikelgcmmaaGreatDoor
