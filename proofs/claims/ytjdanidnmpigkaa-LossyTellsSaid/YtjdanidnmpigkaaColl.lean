/- The walk of lossy.Collide (its first part turned from the guide's worked example on Clone, Sort, Compact). -/
import Derived.Test.YtjdanidnmpigkaaShelfL
import Derived.Test.YtjdanidnmpigkaaLoss
import Derived.Test.YtjdanidnmpigkaaCollLaw2
import Derived.Sort.OwnSorted
import Derived.Sort.Grow
import Derived.Lib.OwnBridge
import Derived.Lib.RowBridge
import Derived.Maps.Own
namespace Go.Proofs.Ytjdanidnmpigkaa
open Go.RowKit Go.Sort
/-- What Clone, Sort and Compact leave: a row of the call's own with the names sorted, each once. -/
theorem sorted_own {w w1 : World} {g cap n nn q : Nat} {os : Array Obj} {ss : List (List UInt8)} (hown : w1.ownsRow w.heap.size 9 1 (.slice (some ⟨g, 0, none⟩) n cap) n (ss.map encStr)) (hbel : Below w.heap.size w w1) (hbg : w.heap.size ≤ g) (hlen : ss.length = n) :
    (putRow encStr (Sort.ahead (grow (putRow encStr (Sort.ahead w1 nn) g 0 (ss.mergeSort fun x y => decide (x ≤ y)).toArray) os) q) g 0 (namesOf ss ++ List.replicate (n - (namesOf ss).length) []).toArray).ownsRow w.heap.size 9 1 (.slice (some ⟨g, 0, none⟩) (namesOf ss).length cap) (namesOf ss).length ((namesOf ss).map encStr) ∧
    Below w.heap.size w (putRow encStr (Sort.ahead (grow (putRow encStr (Sort.ahead w1 nn) g 0 (ss.mergeSort fun x y => decide (x ≤ y)).toArray) os) q) g 0 (namesOf ss ++ List.replicate (n - (namesOf ss).length) []).toArray) := by
  unfold namesOf
  have hl2 : (ss.mergeSort fun x y => decide (x ≤ y)).length = ss.length := List.length_mergeSort ss
  have hle := Lib.compact_length_le (ss.mergeSort fun x y => decide (x ≤ y))
  subst hlen
  rcases hown.2 with ⟨h0, _⟩ | ⟨g', cap', cur, hv, hbase, hb, h1, h2, h3, h4⟩
  · cases h0
  cases hv
  have hs := ownsRow_sorted (n := nn) (os := os) (ts := ss.mergeSort fun x y => decide (x ≤ y)) hl2 hbase hb h1 h2 h3
  have hc := Lib.ownsRow_putRow (q := q) (k := (Lib.compact (ss.mergeSort fun x y => decide (x ≤ y))).length) (ys := Lib.compact (ss.mergeSort fun x y => decide (x ≤ y)) ++ List.replicate (ss.length - (Lib.compact (ss.mergeSort fun x y => decide (x ≤ y))).length) []) hs (by simp; omega) (by omega)
  rw [List.take_left] at hc
  exact ⟨hc, Lib.below_putRow (hbel.grown (grownBy_sorted _) hbel.size (fun j hj => by cases hj; exact hbase)) hbg⟩
theorem ownsMap_bel {w w' : World} {k : TypeId} {R : Value → Option (DataW Unit × List MemPlace)} {b n : Nat} {D : DataW Unit} (h : w.ownsMap Try.prog k R b n D) (hb : Below w.heap.size w w') : w'.ownsMap Try.prog k R b n D := by
  have hlt := h.lt
  obtain ⟨es, clock, hh, F, hs, hD⟩ := h
  exact ⟨es, clock, (hb.block b hlt).trans hh, F, hs, hD⟩
def clA (r : Option (Bs × Bs)) : ByteArray := match r with
  | some x => ⟨x.1.toArray⟩
  | none => ⟨#[]⟩
def clB (r : Option (Bs × Bs)) : ByteArray := match r with
  | some x => ⟨x.2.toArray⟩
  | none => ⟨#[]⟩
set_option maxRecDepth 100000 in
set_option maxHeartbeats 3200000 in
theorem coll_any (p wh : Int) (A : Option Addr) (n cap : Nat) (l : List ByteArray) (w : World) (hl : IsRows strCell 1 w w.heap.size A n l) (hsz : ∀ s ∈ l, s.size ≤ 1048576) (hn : n ≤ 1048576) :
    Calls Try.prog 8 #[.int .i64 p, .int .i64 wh, .slice A n cap] w fun e w' => e = .returned (.tuple #[.agg #[.string (clA (collide p wh (l.map (·.data.toList)))), .string (clB (collide p wh (l.map (·.data.toList))))], .bool (collide p wh (l.map (·.data.toList))).isSome]) ∧ Below w.heap.size w w' := by
  have hmm := @run_makeMap Try.prog
  by_cases h0 : n = 0
  · subst h0
    have hl0 : l = [] := List.length_eq_zero_iff.1 hl.1
    subst hl0
    have hz : collide p wh (([] : List ByteArray).map (·.data.toList)) = none := by
      have := collide_least p wh (([] : List ByteArray).map (·.data.toList))
      cases hq : collide p wh (([] : List ByteArray).map (·.data.toList)) with
      | none => rfl
      | some x => rw [hq] at this; exact absurd this.1.1 (by simp)
    rw [hz]
    have hcl0 : ∀ W : World, Calls Try.prog 14 #[.slice A 0 cap] W fun e w' => ∃ q c, e = .returned (.slice q 0 c) ∧ Below W.heap.size W w' := fun W => by
      cases A with
      | none => exact (Try.slices_Clone_string_nil 0 cap W).mono (by rintro e w' ⟨rfl, rfl⟩; exact ⟨none, 0, rfl, Below.refl _ _⟩)
      | some a => exact (Try.slices_Clone_string_zero a cap W).mono (by
          rintro e w' ⟨v, rfl, hown, _, hb⟩
          obtain ⟨_, ⟨rfl, _⟩ | ⟨g, c, _, rfl, _⟩⟩ := hown
          · exact ⟨none, 0, rfl, hb⟩
          · exact ⟨_, c, rfl, hb⟩)
    go_enter Try.func8, Try.ntmps8
    go_wp2_with (first
      | (go_at_call 14; refine (hcl0 _).mono ?_; rintro e w1 ⟨q, c, rfl, hb1⟩)
      | (go_at_call 15; refine (Try.slices_Sort_string_none q c _).mono ?_; rintro e w2 ⟨rfl, rfl⟩)
      | (go_at_call 16; refine (Try.slices_Compact_string_empty q c _).mono ?_; rintro e w3 ⟨rfl, rfl⟩))
    have hB : Blk ((w3.alloc (.cells #[.string ⟨#[]⟩, .string ⟨#[]⟩] 26)).alloc (.map #[] 0)) w3.heap.size 26 #[.string ⟨#[]⟩, .string ⟨#[]⟩] := (Blk.new _ _ _).alloc _
    have hR : Blk ((w3.alloc (.cells #[.string ⟨#[]⟩, .string ⟨#[]⟩] 26)).alloc (.map #[] 0)) w.heap.size 26 #[.string ⟨#[]⟩, .string ⟨#[]⟩] := ((((Blk.new w _ _).below hb1 (by simp)).alloc _).alloc _)
    have hbz : Below w.heap.size w ((w3.alloc (.cells #[.string ⟨#[]⟩, .string ⟨#[]⟩] 26)).alloc (.map #[] 0)) := bl_alloc (bl_alloc (bl_any (bl_alloc (Below.refl _ _) _) hb1) _) _
    generalize (w3.alloc (.cells #[.string ⟨#[]⟩, .string ⟨#[]⟩] 26)).alloc (.map #[] 0) = wz at *
    have c0 := hB.cell 0; have c1 := hB.cell 1
    have e0 := hR.cell 0; have e1 := hR.cell 1
    have f0 := hR.frozen 0; have f1 := hR.frozen 1
    simp at c0 c1 e0 e1
    refine wp_loop_rounds 1 ?_
    rw [rounds_succ]
    go_wp2_with fail
    refine bodyPost_ret (v := .tuple #[.agg #[.string (clA none), .string (clB none)], .bool false]) ?_ rfl ⟨rfl, ?_⟩
    · simp [results, go_sem, *]
      exact ⟨rfl, rfl⟩
    · exact bl_set (bl_set hbz (by show w.heap.size ≤ w.heap.size; omega) _) (by show w.heap.size ≤ w.heap.size; omega) _
  obtain ⟨b, off, rfl, hgb, hrc⟩ := hl.2 (by omega)
  have hll := hl.1
  have hcl : ∀ W : World, Below w.heap.size w W → Calls Try.prog 14 #[.slice (some ⟨b, off, none⟩) n cap] W fun e w' => ∃ v', e = .returned v' ∧ w'.ownsRow W.heap.size 9 1 v' n ((l.map (·.data.toList)).map encStr) ∧ v' ≠ .slice none 0 0 ∧ Below W.heap.size W w' := fun W hW => by
    have h := Try.slices_Clone_string b off n cap l W (by omega) (by omega) (fun j hj => by
      have := hrc j l[j] 0 (.string l[j]) (List.getElem?_eq_getElem hj) rfl
      rw [List.getD_eq_getElem?_getD, List.getElem?_eq_getElem hj]
      exact (hW.cell (p := ⟨b, off + j, none⟩) hgb).trans (by simpa using this))
    rw [List.take_of_length_le (by omega), ← Lib.map_encStr] at h
    exact h
  have hssz : ∀ x ∈ l.map (·.data.toList), x.length ≤ 1048576 := by
    intro x hx
    obtain ⟨y, hy, rfl⟩ := List.mem_map.1 hx
    have := hsz y hy
    simpa using this
  generalize l.map (·.data.toList) = ss at *
  have hus : ∀ x ∈ namesOf ss, x.length ≤ 1048576 := fun x hx => hssz x ((names_mem ss x).1 hx)
  have hupr := names_up ss
  have hmu : (namesOf ss).length ≤ ss.length := Nat.le_trans (Lib.compact_length_le (ss.mergeSort fun x y => decide (x ≤ y))) (by rw [List.length_mergeSort]; exact Nat.le_refl _)
  unfold collide
  obtain ⟨u, hu⟩ : ∃ u, namesOf ss = u := ⟨_, rfl⟩
  rw [hu] at hus hupr hmu ⊢
  go_enter Try.func8, Try.ntmps8
  go_wp2_with (first
    | (go_at_call 14; (refine (hcl _ (bl_alloc (Below.refl _ _) _)).mono ?_); rintro e w1 ⟨v1, rfl, hown, hnn, hbel⟩
       (obtain ⟨g, cap1, rfl, hbg, hgl, hncap, hcm, hlen, hH⟩ := Lib.holds_of_ownsRow hown hnn)
       (have hsort := Try.slices_Sort_string g 0 cap1 ss w1 hH hgl (by omega))
       (rw [hlen] at hsort))
    | (go_at_call 15; refine hsort.mono ?_; rintro e w2 ⟨rfl, nn, os, rfl⟩
       have hl2 : (ss.mergeSort fun x y => decide (x ≤ y)).length = n := (List.length_mergeSort ss).trans hlen
       have hH2 : Holds encStr (grow (putRow encStr (Sort.ahead w1 nn) g 0 (ss.mergeSort fun x y => decide (x ≤ y)).toArray) os) g 0 (ss.mergeSort fun x y => decide (x ≤ y)).toArray := holds_grow _ _ _ _ _ _ (by rw [size_putRow]; exact hgl) (holds_putRow _ (Sort.ahead w1 nn) g 0 ss.toArray _ (holds_ahead _ _ _ _ _ _ hH) (by simp [List.length_mergeSort]))
       have hcomp := Try.slices_Compact_string g 0 cap1 (ss.mergeSort fun x y => decide (x ≤ y)) _ hH2 (by omega) (by omega)
       rw [hl2, show Lib.compact (ss.mergeSort fun x y => decide (x ≤ y)) = u from hu] at hcomp)
    | (go_at_call 16; refine hcomp.mono ?_; rintro e w3 ⟨rfl, q, hw3⟩
       have h3 := sorted_own (nn := nn) (q := q) (os := os) hown hbel hbg hlen
       rw [hu, ← hw3] at h3
       obtain ⟨hown3, hbel3⟩ := h3
       have hg3 : g < w3.heap.size := (by rw [hw3]; simp; omega)
       clear hw3 hcomp hH2 hsort))
  obtain ⟨A3, cap3, hv3, hr3⟩ := own_rws (f := fun x => [encStr x]) (l := u) (fun _ => rfl) (by rw [List.map_eq_flatMap] at hown3; exact hown3) rfl
  cases hv3
  have law : Go.Maps.Keyed Try.prog 9 := Go.Maps.string_keyed (by kernel_rfl)
  have htm : Try.prog.underlying 39 = some (.map 9 3) := by kernel_rfl
  have hti : Try.prog.underlying 3 = some (.int .i64) := by kernel_rfl
  have zeroE : ∀ w : World, (zeroValue 3).run Try.prog w = .ok (.int .i64 0) w := fun w => by kernel_rfl
  have hb0 : Below w.heap.size w w3 := bl_any (bl_alloc (Below.refl _ _) _) hbel3
  have hw3 : w.heap.size < w3.heap.size := by have := hbel3.size; simp at this; omega
  have hres : Blk w3 w.heap.size 26 #[.string ⟨#[]⟩, .string ⟨#[]⟩] := (Blk.new w _ _).below hbel3 (by simp)
  go_loopw [10, 26] (fun pf i wr => Below w.heap.size w wr ∧ IsRows (fun x => [encStr x]) 1 wr w3.heap.size (some ⟨g, 0, none⟩) u.length u ∧ Blk wr w.heap.size 26 #[.string ⟨#[]⟩, .string ⟨#[]⟩] ∧ w3.heap.size + 1 < wr.heap.size ∧ ∃ (k : Nat) (D : DataW Unit), k ≤ u.length ∧ i = .int .i64 k ∧ pf = .bool (collTo p wh u k).isSome ∧ Blk wr w3.heap.size 26 #[.string (clA (collTo p wh u k)), .string (clB (collTo p wh u k))] ∧ wr.ownsMap Try.prog 9 (plainElem Try.prog 3) (w3.heap.size + 1) k D ∧ Go.Maps.IsMap D ∧ (∀ y, Go.Maps.has D (.string y) = (firstOf p wh u y k).isSome) ∧ (∀ y j, firstOf p wh u y k = some j → ∀ z, D.atKey (.string y) z = .lit (.int .i64 j))) (fun _ i _ => u.length - (intOf i).toNat)
  case atStart =>
    refine ⟨bl_alloc (bl_alloc hb0 _) _, ?_, (hres.alloc _).alloc _, by simp, 0, .map [], by omega, rfl, rfl, (Blk.new _ _ _).alloc _, ?_, ⟨_, rfl⟩, fun y => rfl, fun y j h => by cases h⟩
    · exact hr3.below (bl_alloc (bl_alloc (Below.refl _ _) _) _)
    · have := World.ownsMap_made (H := Unit) (w3.alloc (.cells #[.string ⟨#[]⟩, .string ⟨#[]⟩] 26)) Try.prog 9 (plainElem Try.prog 3)
      simpa using this
  case round =>
    obtain ⟨hbw, hrow, hbres, hgs, k, D, hk, rfl, rfl, hbf, hown, hmap, hhas, hat⟩ := hrel
    by_cases hlt : k < u.length
    · have hdk : decide ((k : Int) < u.length) = true := decide_eq_true (by omega)
      have hk0 : (0 : Int) ≤ k := by omega
      have hk1 : (k : Int) < u.length := by omega
      obtain ⟨x, hx⟩ : ∃ x, u[k]? = some x := ⟨_, List.getElem?_eq_getElem hlt⟩
      have hxd : u.getD k [] = x := by rw [List.getD_eq_getElem?_getD, hx]; rfl
      have hxs := hus x (List.mem_of_getElem? hx)
      obtain ⟨b2, off2, e2, hgb2, hrc2⟩ := hrow.2 (by omega)
      cases e2
      have hcx : wr.cell? ⟨g, k, none⟩ = some (.string ⟨x.toArray⟩) := by have := hrc2 k x 0 _ hx rfl; simpa using this
      have hls : (lossB p wh x).length = x.length := lossB_len p wh x
      have hkey : keyOf Try.prog 9 (.string ⟨(lossB p wh x).toArray⟩) = some (.string (lossB p wh x)) := Go.WideMaps.keyOf_string_mk (by kernel_rfl) (by show (lossB p wh x).length ≤ maxLen; unfold maxLen; omega)
      have hwr := hbw.size
      cases hf : firstOf p wh u (lossB p wh x) k with
      | none =>
        go_wp2_with (first
          | (go_at_call 11; refine (name_any p wh ⟨x.toArray⟩ _ hxs).mono ?_; rintro e w4 ⟨rfl, hb4⟩; have hown4 := ownsMap_bel hown hb4; have hs4 := hb4.size)
          | (at_lookup; go_loud (refine wpList_lookup_own_ok_int _ rfl _ _ 39 (by rfl) 9 3 .i64 law htm hti (zeroE _) (w3.heap.size + 1) k D (by rfl) hown4 _ (.string (lossB p wh x)) (by rfl) hkey ?_); intro c hat4 hwc; rw [hhas, hf])
          | (at_mapUpdate; go_loud (refine wpList_mapUpdate_own _ rfl _ _ _ 39 (by rfl) 9 3 law htm _ (w3.heap.size + 1) k D (by rfl) hown4 (by unfold maxLen; omega) _ _ (.string (lossB p wh x)) (by rfl) (by rfl) hkey (.lit (.int .i64 k)) [] (plainElem_int hti (WalkArith.wf_i64 (by omega))) ?_); intro w5 hown5 hgrow5))
        have hct : collTo p wh u (k + 1) = collTo p wh u k := by rw [collTo, hxd, hf]
        have hs5 := hgrow5.size
        refine ⟨⟨(bl_any hbw hb4).grown hgrow5 (by omega) (fun j e => by injection e with e; omega), hrow.keep (fun b3 o3 h3 => (hgrow5.cell_far _ (by show b3 < _; omega) (by show some b3 ≠ _; intro e; injection e with e; omega)).trans (hb4.cell (p := ⟨b3, o3, none⟩) (by show b3 < _; omega))), (hbres.below hb4 hbres.lt).grown hgrow5 (by intro e; injection e with e; omega), by omega, k + 1, D.put (.string (lossB p wh x)) (.lit (.int .i64 k)), by omega, rfl, by rw [hct], ?_, hown5, hmap.put _ _, fun y => ?_, fun y j hj z => ?_⟩, by (simp only [intOf]; omega)⟩
        · rw [hct]; exact (hbf.below hb4 hbf.lt).grown hgrow5 (by intro e; injection e with e; omega)
        · rw [firstOf, hxd]
          by_cases e : y = lossB p wh x
          · subst e
            rw [Go.Maps.has_put_same hmap (by trivial), hf]; simp
          · rw [Go.Maps.has_put_other (by intro h; injection h with h; exact e h), hhas]
            cases firstOf p wh u y k with
            | some j => rfl
            | none => simp only; rw [if_neg (fun h => e h.symm)]
        · rw [firstOf, hxd] at hj
          by_cases e : y = lossB p wh x
          · subst e
            rw [hf] at hj
            simp at hj
            subst hj
            exact Go.Maps.atKey_put_same hmap (by trivial) _ _
          · rw [Go.Maps.atKey_put_other (by intro h; injection h with h; exact e h)]
            cases hq : firstOf p wh u y k with
            | some j2 => rw [hq] at hj; injection hj with hj; subst hj; exact hat y j2 hq z
            | none => rw [hq] at hj; simp only at hj; rw [if_neg (fun h => e h.symm)] at hj; cases hj
      | some j =>
        obtain ⟨hjk, hje, hjf⟩ := firstOf_some p wh u _ k j hf
        obtain ⟨xj, hxj⟩ : ∃ x, u[j]? = some x := ⟨_, List.getElem?_eq_getElem (by omega)⟩
        have hxjd : u.getD j [] = xj := by rw [List.getD_eq_getElem?_getD, hxj]; rfl
        go_wp2_with (first
          | (go_at_call 11; refine (name_any p wh ⟨x.toArray⟩ _ hxs).mono ?_; rintro e w4 ⟨rfl, hb4⟩; have hown4 := ownsMap_bel hown hb4; have hs4 := hb4.size)
          | (at_lookup; go_loud (refine wpList_lookup_own_ok_int _ rfl _ _ 39 (by rfl) 9 3 .i64 law htm hti (zeroE _) (w3.heap.size + 1) k D (by rfl) hown4 _ (.string (lossB p wh x)) (by rfl) hkey ?_); intro c hat4 hwc; rw [hhas, hf]; obtain rfl : c = (j : Int) := (by have h9 := (hat _ j hf (.lit (.int .i64 0))).symm.trans hat4; injection h9 with h9; injection h9 with _ h9; exact h9.symm)))
        have hgw4 : g < w4.heap.size := by omega
        have hcj : w4.cell? ⟨g, j, none⟩ = some (.string ⟨xj.toArray⟩) := (hb4.cell (p := ⟨g, j, none⟩) (by show g < _; omega)).trans (by have := hrc2 j xj 0 _ hxj rfl; simpa using this)
        have hbf4 := hbf.below hb4 hbf.lt
        have hbres4 := hbres.below hb4 hbres.lt
        have hrow4 : IsRows (fun x => [encStr x]) 1 w4 w3.heap.size (some ⟨g, 0, none⟩) u.length u := hrow.keep (fun b3 o3 h3 => hb4.cell (p := ⟨b3, o3, none⟩) (by show b3 < _; omega))
        have hbw4 := bl_any hbw hb4
        have hj0 : (0 : Int) ≤ j := by omega
        have hj1 : (j : Int) < u.length := by omega
        have hfirst : ∀ y, (firstOf p wh u y (k + 1)) = firstOf p wh u y k := by
          intro y
          rw [firstOf, hxd]
          by_cases e : y = lossB p wh x
          · subst e; rw [hf]
          · cases firstOf p wh u y k with
            | some j => rfl
            | none => simp only; rw [if_neg (fun h => e h.symm)]
        cases hc : collTo p wh u k with
        | none =>
          rw [hc] at hbf4
          have c0 := hbf4.cell 0; have c1 := hbf4.cell 1
          have f0 := hbf4.frozen 0; have f1 := hbf4.frozen 1
          simp at c0 c1
          have hct : collTo p wh u (k + 1) = some (xj, x) := by rw [collTo, hxd, hf]; simp only; rw [hc]; simp only; rw [hxjd]
          go_quiet (fail)
          go_wp2_with fail
          refine ⟨⟨bl_set (bl_set (bl_drewN hbw4 _) (by show w.heap.size ≤ w3.heap.size; omega) _) (by show w.heap.size ≤ w3.heap.size; omega) _, hrow4.keep (fun b3 o3 h3 => ?_), ((hbres4.drewN _).far (by show w.heap.size ≠ w3.heap.size; omega) _).far (by show w.heap.size ≠ w3.heap.size; omega) _, by (simp; omega), k + 1, D, by omega, rfl, by (rw [hct]; rfl), ?_, ?_, hmap, fun y => by rw [hfirst]; exact hhas y, fun y j hj => by rw [hfirst] at hj; exact hat y j hj⟩, by (simp only [intOf]; omega)⟩
          · rw [World.cell?_setCell_other _ _ _ _ (by intro h; injection h with h1; omega), World.cell?_setCell_other _ _ _ _ (by intro h; injection h with h1; omega)]; rfl
          · rw [hct]; have h9 := ((hbf4.drewN nq).set_ 0 (.string ⟨xj.toArray⟩)).set_ 1 (.string ⟨x.toArray⟩); simpa [clA, clB] using h9
          · exact ((ownsMap_bel hown4 (bl_drewN (Below.refl _ _) nq)).mono (by omega)).setCell (by show w3.heap.size + 1 ≠ w3.heap.size; omega) _ |>.setCell (by show w3.heap.size + 1 ≠ w3.heap.size; omega) _
        | some z =>
          rw [hc] at hbf4
          have c0 : w4.cell? ⟨w3.heap.size, 0, none⟩ = some (.string ⟨z.1.toArray⟩) := hbf4.cell 0
          have c1 : w4.cell? ⟨w3.heap.size, 1, none⟩ = some (.string ⟨z.2.toArray⟩) := hbf4.cell 1
          have f0 := hbf4.frozen 0; have f1 := hbf4.frozen 1
          by_cases hless : xj < z.1
          · have hbl : Op.bytesLess xj z.1 = true := by (rw [bytesLess_eq]; exact decide_eq_true hless)
            have hct : collTo p wh u (k + 1) = some (xj, x) := by rw [collTo, hxd, hf]; simp only; rw [hc]; simp only; rw [hxjd, if_pos hless]
            go_quiet (fail)
            go_wp2_with fail
            refine ⟨⟨bl_set (bl_set (bl_drewN hbw4 _) (by show w.heap.size ≤ w3.heap.size; omega) _) (by show w.heap.size ≤ w3.heap.size; omega) _, hrow4.keep (fun b3 o3 h3 => ?_), ((hbres4.drewN _).far (by show w.heap.size ≠ w3.heap.size; omega) _).far (by show w.heap.size ≠ w3.heap.size; omega) _, by (simp; omega), k + 1, D, by omega, rfl, by (rw [hct]; rfl), ?_, ?_, hmap, fun y => by rw [hfirst]; exact hhas y, fun y j hj => by rw [hfirst] at hj; exact hat y j hj⟩, by (simp only [intOf]; omega)⟩
            · rw [World.cell?_setCell_other _ _ _ _ (by intro h; injection h with h1; omega), World.cell?_setCell_other _ _ _ _ (by intro h; injection h with h1; omega)]; rfl
            · rw [hct]; have h9 := ((hbf4.drewN nq).set_ 0 (.string ⟨xj.toArray⟩)).set_ 1 (.string ⟨x.toArray⟩); simpa [clA, clB] using h9
            · exact ((ownsMap_bel hown4 (bl_drewN (Below.refl _ _) nq)).mono (by omega)).setCell (by show w3.heap.size + 1 ≠ w3.heap.size; omega) _ |>.setCell (by show w3.heap.size + 1 ≠ w3.heap.size; omega) _
          · have hbl : Op.bytesLess xj z.1 = false := by (rw [bytesLess_eq]; exact decide_eq_false hless)
            have hct : collTo p wh u (k + 1) = some z := by rw [collTo, hxd, hf]; simp only; rw [hc]; simp only; rw [hxjd, if_neg hless]
            go_quiet (fail)
            go_wp2_with fail
            exact ⟨⟨bl_drewN hbw4 _, hrow4.keep (fun b3 o3 h3 => rfl), hbres4.drewN _, by (simp; omega), k + 1, D, by omega, rfl, by (rw [hct]), by (rw [hct]; exact hbf4.drewN _), (ownsMap_bel hown4 (bl_drewN (Below.refl _ _) nq)).mono (by omega), hmap, fun y => by rw [hfirst]; exact hhas y, fun y j hj => by rw [hfirst] at hj; exact hat y j hj⟩, by (simp only [intOf]; omega)⟩
    · have hdk : decide ((k : Int) < u.length) = false := decide_eq_false (by omega)
      obtain rfl : k = u.length := by omega
      have c0 := hbf.cell 0; have c1 := hbf.cell 1
      have e0 := hbres.cell 0; have e1 := hbres.cell 1
      have f0 := hbres.frozen 0; have f1 := hbres.frozen 1
      simp at c0 c1 e0 e1
      go_wp2_with fail
      refine bodyPost_ret (v := .tuple #[.agg #[.string (clA (collTo p wh u u.length)), .string (clB (collTo p wh u u.length))], .bool (collTo p wh u u.length).isSome]) ?_ rfl ⟨rfl, ?_⟩
      · simp [results, go_sem, *]
      · exact bl_set (bl_set hbw (by show w.heap.size ≤ w.heap.size; omega) _) (by show w.heap.size ≤ w.heap.size; omega) _
end Go.Proofs.Ytjdanidnmpigkaa
