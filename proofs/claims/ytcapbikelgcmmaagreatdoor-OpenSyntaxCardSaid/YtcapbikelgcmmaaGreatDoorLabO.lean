/- The walk of label.Sort: it hands back a row of its own. -/
import Derived.Test.YtcapbikelgcmmaaGreatDoorLabD
namespace Go.Proofs.YtcapbikelgcmmaaGreatDoor
set_option linter.unusedVariables false
set_option linter.unusedSimpArgs false
open Go.RowKit Go.Sort Go.Shelf
theorem heap_sortK {α : Type} [Inhabited α] {f : α → List Value} {size : Nat} {w : World} {g m : Nat} {d : Array α} {os : Array Obj} {cur : Array Value} {e : TypeId} (h : w.heap[g]? = some (.cells cur e (0, 0))) : ∃ cur', (sortWorldK f size w g 0 m d os).heap[g]? = some (.cells cur' e (0, 0)) ∧ cur'.size = cur.size := by
  have hg : g < w.heap.size := by
    rcases Nat.lt_or_ge g w.heap.size with h' | h'
    · exact h'
    · rw [Array.getElem?_eq_none h'] at h; cases h
  have h1 : (putRow id (Sort.ahead w m) g 0 (flatK f size d)).heap[g]? = some (.cells (putCells id 0 (flatK f size d) cur) e (0, 0)) := by
    unfold putRow mapBlock
    show ((Sort.ahead w m).heap.modify g _)[g]? = _
    rw [Array.getElem?_modify]
    simp only [if_true]
    show (w.heap[g]?).map _ = _
    rw [h]; rfl
  refine ⟨putCells id 0 (flatK f size d) cur, ?_, by simp [putCells]⟩
  show (grow (putRow id (Sort.ahead w m) g 0 (flatK f size d)) os).heap[g]? = _
  have hsz : (putRow id (Sort.ahead w m) g 0 (flatK f size d)).heap.size = w.heap.size := by simp [putRow, mapBlock, Sort.ahead]
  exact (Sort.heap_grow_old _ _ (by show g < (putRow id (Sort.ahead w m) g 0 (flatK f size d)).heap.size; rw [hsz]; exact hg)).trans h1
/-- A row of the call's own, sorted. -/
theorem own_sortK {α : Type} [Inhabited α] {f : α → List Value} {size : Nat} (hf : ∀ x, (f x).length = size) {w w2 : World} {base g n cap m : Nat} {e : TypeId} {xs : List Value} {d : Array α} {os : Array Obj} (h : w.ownsRow base e size (.slice (some ⟨g, 0, none⟩) n cap) n xs) (hd : d.size = n)
    (hw : w2 = sortWorldK f size w g 0 m d os) (hH : HoldsK f size w2 g 0 d) : w2.ownsRow base e size (.slice (some ⟨g, 0, none⟩) n cap) n (d.toList.flatMap f) := by
  obtain ⟨hl, ⟨h0, _⟩ | ⟨g', cap', cur, hv, hg, hh, hnc, hcm, hcs, htk⟩⟩ := h
  · cases h0
  cases hv
  obtain ⟨cur', hc, hcz⟩ := heap_sortK (f := f) (size := size) (m := m) (d := d) (os := os) hh
  rw [← hw] at hc
  have hlen : (d.toList.flatMap f).length = n * size := by
    rw [← hd, ← Array.length_toList]
    clear hH hw hd
    induction d.toList with
    | nil => simp
    | cons x l ih => rw [List.flatMap_cons, List.length_append, hf, ih, List.length_cons, Nat.add_mul]; omega
  refine ⟨hlen, .inr ⟨g, cap, cur', rfl, hg, hc, hnc, hcm, hcz.trans hcs, ?_⟩⟩
  apply List.ext_getElem?
  intro j
  by_cases hj : j < n * size
  · have h1 := (hH j (by rw [size_flatK, hd]; exact hj)).1
    rw [cell_of_row w2 g (0 + j) cur' e (0, 0) hc, Nat.zero_add, get_flatK f size _ j (by rw [hd]; exact hj)] at h1
    rw [List.getElem?_take, if_pos hj, Array.getElem?_toList, h1]
    have hpos : 0 < size := by
      rcases Nat.eq_zero_or_pos size with h | h
      · rw [h] at hj; simp at hj
      · exact h
    have hi : j / size < d.size := by rw [hd]; exact Nat.div_lt_of_lt_mul (by rw [Nat.mul_comm]; exact hj)
    have e1 : d.toList[j / size]? = some d[j / size]! := by
      rw [Array.getElem?_toList, getElem!_def, Array.getElem?_eq_getElem hi]
    have hm : j % size < (f d[j / size]!).length := by rw [hf]; exact Nat.mod_lt _ hpos
    have e2 : (f d[j / size]!)[j % size]? = some (f d[j / size]!)[j % size]! := by
      rw [List.getElem?_eq_getElem hm]; simp [hm]
    have h3 := flatMap_at f size hf d.toList (j / size) _ (j % size) _ e1 e2
    rw [Nat.div_add_mod'] at h3
    exact h3.symm
  · rw [List.getElem?_take, if_neg hj, List.getElem?_eq_none (by omega)]
/-- What Sort tells: a row of its own. -/
def SortO (B0 : Nat) (L : List Lab) (e : Ending) (w' : World) : Prop := ∃ (A : Option Addr) (n c : Nat), e = .returned (.tuple #[.slice A n c, .bool (sortL L).isSome]) ∧ w'.ownsRow B0 183 2 (.slice A n c) n (((sortL L).getD []).flatMap labCell) ∧ ((sortL L).getD []).length = n
theorem sortO_no {B0 : Nat} {L : List Lab} {w' : World} (h : sortL L = none) : SortO B0 L (.returned (.tuple #[.slice none 0 0, .bool false])) w' := ⟨none, 0, 0, by rw [h]; rfl, by rw [h]; exact World.ownsRow_nil _ _ _ _, by rw [h]; rfl⟩
theorem sortO_yes {B0 : Nat} {L s : List Lab} {w' : World} {A : Option Addr} {n c : Nat} (h : sortL L = some s) (ho : w'.ownsRow B0 183 2 (.slice A n c) n (s.flatMap labCell)) (hn : s.length = n) : SortO B0 L (.returned (.tuple #[.slice A n c, .bool true])) w' := ⟨A, n, c, by rw [h]; rfl, by rw [h]; exact ho, by rw [h]; exact hn⟩
set_option maxRecDepth 100000 in
set_option maxHeartbeats 1600000 in
theorem sortO_any (A : Option Addr) (n cap : Nat) (L : List Lab) (w : World) (hl : IsRows labCell 2 w w.heap.size A n L) (hn : n ≤ 1048576) :
    Calls Tryz.prog 125 #[.slice A n cap] w fun e w' => SortO w.heap.size L e w' ∧ Below w.heap.size w w' := by
  have hcl := labClone_any A n cap L w hl hn
  have hll := hl.1
  by_cases h0 : n = 0
  · subst h0
    have hL : L = [] := List.length_eq_zero_iff.1 hl.1
    have hsL : Hid (sortL L = some []) := Lib.hid (sortL_some (by rw [hL]; exact ⟨List.Perm.refl _, List.Pairwise.nil⟩))
    have hLn := hL
    clear hL
    go_enter Tryz.func125, Tryz.ntmps125
    go_wp2_with (go_at_call 172; refine hcl.mono ?_; rintro e w1 ⟨⟨v, rfl, hown⟩, hb1⟩; have hownX := hown; obtain ⟨_, ⟨rfl, _⟩ | ⟨g, c, _, rfl, hgB, _⟩⟩ := hown)
    · have hsn := fun fv W => AnyF.slices_SortFunc_none Tryz.sortLab none 0 fv W
      change ∀ fv W, Calls Tryz.prog 173 _ _ _ at hsn
      go_wp2_with (go_at_call 173; refine (hsn _ _).mono ?_; rintro e w2 ⟨rfl, rfl⟩)
      refine wp_loop_rounds 1 ?_
      rw [rounds_succ]
      go_wp2_with fail
      go_ret2
      exact ⟨sortO_yes hsL.out (by rw [hLn] at hownX; exact hownX) rfl, hb1⟩
    · have hsn := fun fv W => AnyF.slices_SortFunc_none Tryz.sortLab (some ⟨g, 0, none⟩) c fv W
      change ∀ fv W, Calls Tryz.prog 173 _ _ _ at hsn
      go_wp2_with (go_at_call 173; refine (hsn _ _).mono ?_; rintro e w2 ⟨rfl, rfl⟩)
      refine wp_loop_rounds 1 ?_
      rw [rounds_succ]
      go_wp2_with fail
      go_ret2
      exact ⟨sortO_yes hsL.out (by rw [hLn] at hownX; exact hownX) rfl, hb1⟩
  · go_enter Tryz.func125, Tryz.ntmps125
    go_wp2_with (go_at_call 172; refine hcl.mono ?_; rintro e w1 ⟨⟨v, rfl, hown⟩, hb1⟩; obtain ⟨g, c, rfl, hbg, hgl⟩ := hown.form (by omega))
    have hHK := holdsK_own (f := labCell) (fun _ => rfl) (by decide) hown hll
    have eg : ∀ args w, (callFunc 174 args).run Tryz.prog w = .ok (.enter 174 args) w := enters_of Tryz.func174 (by kernel_rfl) rfl
    have aE : ∀ w, (isAgg 183).run Tryz.prog w = .ok true w := fun w => by kernel_rfl
    have zE : ∀ w, (Go.sizeOf 183).run Tryz.prog w = .ok 2 w := fun w => by kernel_rfl
    have hsf := AnyQ.slices_SortFunc Tryz.sortLab 2 aE zE labCell (fun _ => rfl) (fun x v hv => by simp [labCell] at hv; rcases hv with rfl | rfl <;> rfl) cmpNm swoNm 174 #[] g 0 c L.toArray w1 eg (fun _ _ _ _ x y => sortLess_any x y _) hHK hgl (by simp; omega)
    change Calls Tryz.prog 173 _ _ _ at hsf
    have hLs : L.toArray.size = n := by simp [hll]
    rw [hLs] at hsf
    clear eg aE zE
    go_wp2_with (go_at_call 173; refine hsf.mono ?_; rintro e w2 ⟨rfl, d', m, os, hp, hs, hw2⟩; have HW := Lib.hid hw2; clear hw2)
    have hw2 := HW.out
    clear HW
    have hds : d'.size = n := hp.1.trans hLs
    have hH2 : HoldsK labCell 2 w2 g 0 d' := by rw [hw2]; exact holdsK_sortWorldK labCell 2 w1 g 0 m L.toArray d' os hgl hHK hp.1
    have hg2 : g < w2.heap.size := by rw [hw2]; exact lt_sortWorldK labCell 2 w1 g 0 m d' os hgl
    have hb2 : Below w.heap.size w w2 := by rw [hw2]; exact below_sortK hb1 hb1.size hbg
    have hr2 := rows_holdsK (f := labCell) (fun _ => rfl) hH2 hg2
    have ho2 := own_sortK (f := labCell) (fun _ => rfl) hown (by rw [hds]) hw2 hH2
    have hpm : d'.toList.Perm L := by have := perm_of (d := L.toArray) (by rw [hLs]; exact hp); simpa using this
    have hso := lt_of_sorted (d := d') (by rw [hds]; exact hs)
    clear hw2 hsf hp hs hH2 hHK hown hcl
    rw [hds] at hr2
    obtain ⟨S, hS⟩ : ∃ S, d'.toList = S := ⟨_, rfl⟩
    rw [hS] at hr2 ho2 hpm hso
    have hSl : S.length = n := hr2.1
    clear hS hds
    have HP := Lib.hid hpm
    have HO := Lib.hid hso
    clear hpm hso
    go_loopw [5] (fun i wr => Below w.heap.size w wr ∧ wr.ownsRow w.heap.size 183 2 (.slice (some ⟨g, 0, none⟩) n c) n (S.flatMap labCell) ∧ IsRows labCell 2 wr w2.heap.size (some ⟨g, 0, none⟩) n S ∧ w2.heap.size ≤ wr.heap.size ∧ ∃ k : Nat, 1 ≤ k ∧ k ≤ n ∧ i = .int .i64 k ∧ Hid (∀ j, 1 ≤ j → j < k → nmL (S.getD (j - 1) default) ≠ nmL (S.getD j default))) (fun i _ => n - (intOf i).toNat)
    case atStart => exact ⟨hb2, ho2, hr2, Nat.le_refl _, 1, by omega, by omega, rfl, Lib.hid (fun j h1 h2 => absurd h1 (by omega))⟩
    case round =>
      obtain ⟨hbw, how, hrw, hzw, k, hk1, hkn, rfl, HG⟩ := hrel
      by_cases hlt : k < n
      · have hdk : decide ((k : Int) < n) = true := decide_eq_true (by omega)
        obtain ⟨b1, off1, x, y, hA1, _, hx, e0, _⟩ := lab_at hrw hlt
        cases hA1
        obtain ⟨b2, off2, px, py, hA2, _, hpx, p0, _⟩ := lab_at hrw (show k - 1 < n by omega)
        cases hA2
        have hkm0 : (0 : Int) ≤ (k : Int) - 1 := by omega
        have hkm1 : (k : Int) - 1 < n := by omega
        have hkm2 : (1 : Int) ≤ k := by omega
        have hk0 : (0 : Int) ≤ k := by omega
        have hk3 : (k : Int) < n := by omega
        have ex : S.getD k default = (x, y) := by rw [List.getD_eq_getElem?_getD, hx]; rfl
        have ep : S.getD (k - 1) default = (px, py) := by rw [List.getD_eq_getElem?_getD, hpx]; rfl
        have EX := Lib.hid (And.intro ex ep)
        clear ex ep
        simp only [Nat.zero_add] at e0 p0
        have hw1 : IntKind.i64.wrap ((k : Int) - 1) = (k : Int) - 1 := IntWalk.i64_in _ (by omega)
        have hw2 : ((k : Int) - 1).toNat = k - 1 := by omega
        cases hq : (px.toList == x.toList)
        · have HF : Hid (∀ j, 1 ≤ j → j < k + 1 → nmL (S.getD (j - 1) default) ≠ nmL (S.getD j default)) := Lib.hid (fun j h1 h2 => by
            by_cases e : j = k
            · subst e
              rw [EX.out.1, EX.out.2]
              rw [ByteArray.toList_eq, ByteArray.toList_eq, beq_eq_false_iff_ne] at hq; exact hq
            · exact HG.out j h1 (by omega))
          clear HG
          go_wp2_with fail
          go_quiet (fail)
          clear hw1 hw2
          go_wp2_with fail
          exact ⟨⟨bl_drewN hbw _, own_drewN how _, hrw.keep (fun _ _ _ => rfl), hzw, k + 1, by omega, by omega, rfl, HF⟩, by (simp only [intOf]; omega)⟩
        · have HF : Hid (sortL L = none) := Lib.hid (sortL_none (by
            rw [← distinct_perm HP.out]
            exact distinct_two (i := k - 1) (j := k) (by omega) (by omega) (by rw [EX.out.1, EX.out.2]; rw [ByteArray.toList_eq, ByteArray.toList_eq, beq_iff_eq] at hq; exact hq)))
          clear HG
          go_wp2_with fail
          go_quiet (fail)
          go_wp2_with fail
          go_ret2
          exact ⟨sortO_no HF.out, bl_drewN hbw _⟩
      · have hdk : decide ((k : Int) < n) = false := decide_eq_false (by omega)
        obtain rfl : k = n := by omega
        have HF : Hid (sortL L = some S) := Lib.hid (sortL_some ⟨HP.out, dist_of HO.out (fun j h1 h2 => HG.out j h1 (by omega))⟩)
        clear HG HO HP
        go_wp2_with fail
        go_ret2
        exact ⟨sortO_yes HF.out how hSl, hbw⟩
end Go.Proofs.YtcapbikelgcmmaaGreatDoor
