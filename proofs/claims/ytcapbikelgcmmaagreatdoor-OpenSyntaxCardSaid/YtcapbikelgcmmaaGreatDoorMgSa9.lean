/- The walks of slices' sorts at no or one element. The walks of own.Point, own.Points, own.Family. The walks of own.Family and family.Sort. Families in memory: one whose points were put anew. slices.SortFunc at families, by their names. slices' insertion sort at points, compared by point.Compare. slices' stable sort at points (fewer than twenty), family.rises, family.Sort. -/
import Derived.Test.YtcapbikelgcmmaaGreatDoorMgFa9
import Derived.Test.YtcapbikelgcmmaaGreatDoorLabD
import Derived.Test.YtcapbikelgcmmaaGreatDoorMgTe9
import Derived.Test.YtcapbikelgcmmaaGreatDoorLabO
import Derived.Test.YtcapbikelgcmmaaGreatDoorMgPl9
import Derived.Shelf.SlSortCmp.NoneTotal
import Derived.Deep.CutRange
import Derived.Sort.LotA
namespace Go.Proofs.YtcapbikelgcmmaaGreatDoor
set_option linter.unusedVariables false
set_option linter.unusedSimpArgs false
open Go.RowKit
section
theorem len64_one (n : Nat) (hn : n ≤ 1) (w : World) : Calls Tryz.prog 101 #[.int .u64 (n : Int)] w fun e w' => (∃ k : Int, e = .returned (.int .i64 k)) ∧ w' = w := by
  obtain rfl | rfl : n = 0 ∨ n = 1 := by omega
  · go_enter Tryz.func101, Tryz.ntmps101
    go_wp2_with fail
    go_ret
    exact ⟨⟨_, rfl⟩, rfl⟩
  · go_enter Tryz.func101, Tryz.ntmps101
    go_wp2_with fail
    go_ret
    exact ⟨⟨_, rfl⟩, rfl⟩
theorem len_one (n : Nat) (hn : n ≤ 1) (w : World) : Calls Tryz.prog 50 #[.int .u64 (n : Int)] w fun e w' => (∃ k : Int, e = .returned (.int .i64 k)) ∧ w' = w := by
  have k := len64_one n hn w
  go_enter Tryz.func50, Tryz.ntmps50
  go_wp2_with (go_at_call 101; (with_reducible refine k.mono ?_); rintro e w1 ⟨⟨kk, rfl⟩, hw1⟩; rw [hw1]; clear hw1 w1)
  go_ret
  exact ⟨⟨_, rfl⟩, rfl⟩
theorem finsOne (v f : Value) (n : Nat) (hn : n ≤ 1) (w : World) : Calls Tryz.prog 92 #[v, .int .i64 0, .int .i64 (n : Int), f] w fun e w' => e = .returned (.tuple #[]) ∧ w' = w := by
  have d : decide ((1 : Int) < (n : Int)) = false := decide_eq_false (by omega)
  go_enter Tryz.func92, Tryz.ntmps92
  go_wp2_with fail
  refine wp_loop_rounds 1 ?_
  repeat (rw [rounds_succ]; go_wp2_with fail)
  go_end0
  exact ⟨rfl, rfl⟩
theorem pinsOne (v f : Value) (n : Nat) (hn : n ≤ 1) (w : World) : Calls Tryz.prog 132 #[v, .int .i64 0, .int .i64 (n : Int), f] w fun e w' => e = .returned (.tuple #[]) ∧ w' = w := by
  have d : decide ((1 : Int) < (n : Int)) = false := decide_eq_false (by omega)
  go_enter Tryz.func132, Tryz.ntmps132
  go_wp2_with fail
  refine wp_loop_rounds 1 ?_
  repeat (rw [rounds_succ]; go_wp2_with fail)
  go_end0
  exact ⟨rfl, rfl⟩
theorem pdqOne (v f : Value) (k : Int) (n : Nat) (hn : n ≤ 1) (w : World) : Calls Tryz.prog 49 #[v, .int .i64 0, .int .i64 (n : Int), .int .i64 k, f] w fun e w' => e = .returned (.tuple #[]) ∧ w' = w := by
  have kI := finsOne v f n hn w
  have wn : IntKind.i64.wrap ((n : Int) - 0) = (n : Int) := by rw [Int.sub_zero]; exact IntWalk.i64_in _ (by omega)
  have d : decide ((n : Int) ≤ 12) = true := decide_eq_true (by omega)
  go_enter Tryz.func49, Tryz.ntmps49
  go_wp2_with fail
  refine wp_loop_rounds 1 ?_
  repeat (rw [rounds_succ]; go_wp2_with (go_at_call 92; (with_reducible refine kI.mono ?_); rintro e w1 ⟨rfl, hw1⟩; rw [hw1]; clear hw1 w1))
  first
    | go_end0
    | refine bodyPost_ret (results_none rfl _ _ _) rfl ?_
  exact ⟨rfl, rfl⟩
theorem fsortOne (A : Option Addr) (c : Nat) (f : Value) (n : Nat) (hn : n ≤ 1) (w : World) : Calls Tryz.prog 24 #[.slice A n c, f] w fun e w' => e = .returned (.tuple #[]) ∧ w' = w := by
  have kL := len_one n hn w
  have kP := fun k => pdqOne (.slice A n c) f k n hn w
  have wn : IntKind.u64.wrap (n : Int) = (n : Int) := by
    obtain rfl | rfl : n = 0 ∨ n = 1 := by omega
    · rfl
    · rfl
  go_enter Tryz.func24, Tryz.ntmps24
  go_wp2_with (first
    | (go_at_call 50; (with_reducible refine kL.mono ?_); rintro e w1 ⟨⟨k, rfl⟩, hw1⟩; rw [hw1]; clear hw1 w1)
    | (go_at_call 49; (with_reducible refine (kP _).mono ?_); rintro e w1 ⟨rfl, hw1⟩; rw [hw1]; clear hw1 w1))
  first
    | go_end0
    | refine bodyPost_ret (results_none rfl _ _ _) rfl ?_
  exact ⟨rfl, rfl⟩
theorem stableOne (v f : Value) (n : Nat) (hn : n ≤ 1) (w : World) : Calls Tryz.prog 85 #[v, .int .i64 (n : Int), f] w fun e w' => e = .returned (.tuple #[]) ∧ w' = w := by
  have kI := pinsOne v f n hn w
  have d : decide ((20 : Int) ≤ (n : Int)) = false := decide_eq_false (by omega)
  have d2 : decide ((20 : Int) < (n : Int)) = false := decide_eq_false (by omega)
  go_enter Tryz.func85, Tryz.ntmps85
  go_wp2_with fail
  refine wp_loop_rounds 1 ?_
  repeat (rw [rounds_succ]; go_wp2_with (go_at_call 132; (with_reducible refine kI.mono ?_); rintro e w1 ⟨rfl, hw1⟩; rw [hw1]; clear hw1 w1))
  refine wp_loop_rounds 1 ?_
  repeat (rw [rounds_succ]; go_wp2_with fail)
  first
    | go_end0
    | refine bodyPost_ret (results_none rfl _ _ _) rfl ?_
  exact ⟨rfl, rfl⟩
theorem psortOne (A : Option Addr) (c : Nat) (f : Value) (n : Nat) (hn : n ≤ 1) (w : World) : Calls Tryz.prog 46 #[.slice A n c, f] w fun e w' => e = .returned (.tuple #[]) ∧ w' = w := by
  have kP := stableOne (.slice A n c) f n hn w
  go_enter Tryz.func46, Tryz.ntmps46
  go_wp2_with (go_at_call 85; (with_reducible refine kP.mono ?_); rintro e w1 ⟨rfl, hw1⟩; rw [hw1]; clear hw1 w1)
  first
    | go_end0
    | refine bodyPost_ret (results_none rfl _ _ _) rfl ?_
  exact ⟨rfl, rfl⟩
theorem risesOne (A : Option Addr) (c n : Nat) (hn : n ≤ 1) (w : World) : Calls Tryz.prog 48 #[.slice A n c] w fun e w' => e = .returned (.bool true) ∧ w' = w := by
  have d : decide ((1 : Int) < (n : Int)) = false := decide_eq_false (by omega)
  go_enter Tryz.func48, Tryz.ntmps48
  go_wp2_with fail
  refine wp_loop_rounds 1 ?_
  repeat (rw [rounds_succ]; go_wp2_with fail)
  go_ret
  exact ⟨rfl, rfl⟩
end
section
theorem own_lowP {w : World} {base base' : Nat} {e : TypeId} {size n : Nat} {v : Value} {xs : List Value} (h : w.ownsRow base e size v n xs) (hb : base' ≤ base) : w.ownsRow base' e size v n xs := by
  obtain ⟨hl, h | ⟨g, cap, cur, hv, hg, r⟩⟩ := h
  · exact ⟨hl, .inl h⟩
  · exact ⟨hl, .inr ⟨g, cap, cur, hv, by omega, r⟩⟩
set_option maxHeartbeats 3200000 in
theorem ownPoint_any (p : VPnt) (w : World) (hp : IsRows labCell 2 w w.heap.size p.A p.pt.labels.length p.pt.labels) (hn : p.pt.labels.length ≤ 1048576) :
    Calls Tryz.prog 131 #[.agg #[.slice p.A p.pt.labels.length p.c, .int .i64 (p.pt.role : Int), .bool p.pt.inf, .int .i64 p.pt.bM, .int .i64 (p.pt.bS : Int), .int .i64 p.pt.vM, .int .i64 (p.pt.vS : Int), .bool p.pt.timed, .int .i64 p.pt.time]] w fun e w' => (∃ A' c', e = .returned (.agg #[.slice A' p.pt.labels.length c', .int .i64 (p.pt.role : Int), .bool p.pt.inf, .int .i64 p.pt.bM, .int .i64 (p.pt.bS : Int), .int .i64 p.pt.vM, .int .i64 (p.pt.vS : Int), .bool p.pt.timed, .int .i64 p.pt.time]) ∧ w'.ownsRow w.heap.size 183 2 (.slice A' p.pt.labels.length c') p.pt.labels.length (p.pt.labels.flatMap labCell)) ∧ Below w.heap.size w w' := by
  have hz : (w.alloc (.cells #[.slice p.A p.pt.labels.length p.c, .int .i64 (p.pt.role : Int), .bool p.pt.inf, .int .i64 p.pt.bM, .int .i64 (p.pt.bS : Int), .int .i64 p.pt.vM, .int .i64 (p.pt.vS : Int), .bool p.pt.timed, .int .i64 p.pt.time] 73)).heap.size = w.heap.size + 1 := by simp
  have hA := ((Aw.refl [] w).alloc (.cells #[.slice p.A p.pt.labels.length p.c, .int .i64 (p.pt.role : Int), .bool p.pt.inf, .int .i64 p.pt.bM, .int .i64 (p.pt.bS : Int), .int .i64 p.pt.vM, .int .i64 (p.pt.vS : Int), .bool p.pt.timed, .int .i64 p.pt.time] 73)).alloc (.cells #[.slice none 0 0, .int .i64 0, .bool false, .int .i64 0, .int .i64 0, .int .i64 0, .int .i64 0, .bool false, .int .i64 0] 73)
  have hb1 := Blk.alloc (Blk.new w 73 #[.slice p.A p.pt.labels.length p.c, .int .i64 (p.pt.role : Int), .bool p.pt.inf, .int .i64 p.pt.bM, .int .i64 (p.pt.bS : Int), .int .i64 p.pt.vM, .int .i64 (p.pt.vS : Int), .bool p.pt.timed, .int .i64 p.pt.time]) (.cells #[.slice none 0 0, .int .i64 0, .bool false, .int .i64 0, .int .i64 0, .int .i64 0, .int .i64 0, .bool false, .int .i64 0] 73)
  have hb2 := Blk.new (w.alloc (.cells #[.slice p.A p.pt.labels.length p.c, .int .i64 (p.pt.role : Int), .bool p.pt.inf, .int .i64 p.pt.bM, .int .i64 (p.pt.bS : Int), .int .i64 p.pt.vM, .int .i64 (p.pt.vS : Int), .bool p.pt.timed, .int .i64 p.pt.time] 73)) 73 #[.slice none 0 0, .int .i64 0, .bool false, .int .i64 0, .int .i64 0, .int .i64 0, .int .i64 0, .bool false, .int .i64 0]
  rw [hz] at hb2
  have kC := labClone_any p.A p.pt.labels.length p.c p.pt.labels _ ((hp.aw hA (Nat.le_refl _) (by simp)).more hA.size) hn
  have hsz := hA.size
  clear hz hp
  go_enter Tryz.func131, Tryz.ntmps131
  go_upto_region 1 with (fail)
  generalize (w.alloc (.cells #[.slice p.A p.pt.labels.length p.c, .int .i64 (p.pt.role : Int), .bool p.pt.inf, .int .i64 p.pt.bM, .int .i64 (p.pt.bS : Int), .int .i64 p.pt.vM, .int .i64 (p.pt.vS : Int), .bool p.pt.timed, .int .i64 p.pt.time] 73)).alloc (.cells #[.slice none 0 0, .int .i64 0, .bool false, .int .i64 0, .int .i64 0, .int .i64 0, .int .i64 0, .bool false, .int .i64 0] 73) = W at *
  have l1 := Blk.lt hb1
  have l2 := Blk.lt hb2
  generalize hb : w.heap.size = b at *
  have c0 := (Blk.cell hb1 0).trans rfl
  go_upto_region 2 with (go_at_call 172; (with_reducible refine kC.mono ?_); rintro e w1 ⟨⟨v, rfl, hown⟩, hbw⟩; obtain ⟨A', c', rfl⟩ := own_form hown; have hb11 := Blk.below hb1 hbw (by omega); have hb21 := Blk.below hb2 hbw (by omega); have f0 := Blk.frozen hb11 0; have a0 := (Blk.cell hb11 0).trans rfl)
  have hb12 := Blk.set_ hb11 0 (.slice A' p.pt.labels.length c')
  have hb22 := Blk.far hb21 (p := ⟨b, 0, none⟩) (by simp) (.slice A' p.pt.labels.length c')
  have hown2 := own_aw hown ((Aw.refl [b] w1).setCell (p := ⟨b, 0, none⟩) (.inl (by simp)) (.slice A' p.pt.labels.length c')) (fun g hg hm => by have := (hown.lt _ hg).1; simp at hm; omega)
  have hbl := bl_set (hA.none_bel.trans (hbw.mono (by omega))) (p := ⟨b, 0, none⟩) (by simp; omega) (.slice A' p.pt.labels.length c')
  generalize w1.setCell ⟨b, 0, none⟩ (.slice A' p.pt.labels.length c') = w2 at *
  have q0 := (Blk.cell hb12 0).trans rfl; have q1 := (Blk.cell hb12 1).trans rfl; have q2 := (Blk.cell hb12 2).trans rfl; have q3 := (Blk.cell hb12 3).trans rfl; have q4 := (Blk.cell hb12 4).trans rfl; have q5 := (Blk.cell hb12 5).trans rfl; have q6 := (Blk.cell hb12 6).trans rfl; have q7 := (Blk.cell hb12 7).trans rfl; have q8 := (Blk.cell hb12 8).trans rfl
  have d0 := (Blk.cell hb22 0).trans rfl; have d1 := (Blk.cell hb22 1).trans rfl; have d2 := (Blk.cell hb22 2).trans rfl; have d3 := (Blk.cell hb22 3).trans rfl; have d4 := (Blk.cell hb22 4).trans rfl; have d5 := (Blk.cell hb22 5).trans rfl; have d6 := (Blk.cell hb22 6).trans rfl; have d7 := (Blk.cell hb22 7).trans rfl; have d8 := (Blk.cell hb22 8).trans rfl
  have g0 := Blk.frozen hb22 0; have g1 := Blk.frozen hb22 1; have g2 := Blk.frozen hb22 2; have g3 := Blk.frozen hb22 3; have g4 := Blk.frozen hb22 4; have g5 := Blk.frozen hb22 5; have g6 := Blk.frozen hb22 6; have g7 := Blk.frozen hb22 7; have g8 := Blk.frozen hb22 8
  go_wp2_with fail
  have hA9 := ((((((((((Aw.refl [b + 1] w2).setCell (p := ⟨b + 1, 0, none⟩) (.inl (by simp)) (.slice A' p.pt.labels.length c')).setCell (p := ⟨b + 1, 1, none⟩) (.inl (by simp)) (.int .i64 (p.pt.role : Int))).setCell (p := ⟨b + 1, 2, none⟩) (.inl (by simp)) (.bool p.pt.inf)).setCell (p := ⟨b + 1, 3, none⟩) (.inl (by simp)) (.int .i64 p.pt.bM)).setCell (p := ⟨b + 1, 4, none⟩) (.inl (by simp)) (.int .i64 (p.pt.bS : Int))).setCell (p := ⟨b + 1, 5, none⟩) (.inl (by simp)) (.int .i64 p.pt.vM)).setCell (p := ⟨b + 1, 6, none⟩) (.inl (by simp)) (.int .i64 (p.pt.vS : Int))).setCell (p := ⟨b + 1, 7, none⟩) (.inl (by simp)) (.bool p.pt.timed)).setCell (p := ⟨b + 1, 8, none⟩) (.inl (by simp)) (.int .i64 p.pt.time))
  refine bodyPost_ret (v := .agg #[.slice A' p.pt.labels.length c', .int .i64 (p.pt.role : Int), .bool p.pt.inf, .int .i64 p.pt.bM, .int .i64 (p.pt.bS : Int), .int .i64 p.pt.vM, .int .i64 (p.pt.vS : Int), .bool p.pt.timed, .int .i64 p.pt.time]) (by simp [results, Tryz.results131, go_sem, d0, d1, d2, d3, d4, d5, d6, d7, d8]) rfl ⟨⟨A', c', rfl, own_lowP (own_aw hown2 hA9 (fun g hg hm => by have := (hown2.lt _ hg).1; simp at hm; omega)) (by omega)⟩, ?_⟩
  exact hbl.trans (hA9.bel_of (fun k hk => by simp at hk; omega) (by have := hbl.size; omega))
structure OwnPts (B : Nat) (w : World) (v : Value) (ps : List VPnt) : Prop where
  own : w.ownsRow B 73 9 v ps.length (ps.flatMap pntCell)
  lab : ∀ x ∈ ps, w.ownsRow B 183 2 x.lv x.pt.labels.length (x.pt.labels.flatMap labCell)
theorem OwnPts.bel {B : Nat} {w w' : World} {v : Value} {ps : List VPnt} (h : OwnPts B w v ps) (k : Below w.heap.size w w') : OwnPts B w' v ps := ⟨own_bel h.own k, fun x hx => own_bel (h.lab x hx) k⟩
theorem OwnPts.grow {B : Nat} {w w' : World} {v v' : Value} {ps : List VPnt} {q : VPnt} (h : OwnPts B w v ps) (hq : w.ownsRow B 183 2 q.lv q.pt.labels.length (q.pt.labels.flatMap labCell)) (hg : w.grownBy w' v.ownBlock) (ho : w'.ownsRow B 73 9 v' (ps.length + 1) (ps.flatMap pntCell ++ pntCell q)) : OwnPts B w' v' (ps ++ [q]) := by
  have k : ∀ x : VPnt, w.ownsRow B 183 2 x.lv x.pt.labels.length (x.pt.labels.flatMap labCell) → w'.ownsRow B 183 2 x.lv x.pt.labels.length (x.pt.labels.flatMap labCell) := fun x hx => hx.kept hg (by
    cases hb : Value.ownBlock _ with
    | none => exact .inl rfl
    | some b => exact .inr (fun e => own_own_ne hx h.own (by decide) b hb e.symm))
  exact ⟨by simpa using ho, fun x hx => by
    rcases List.mem_append.1 hx with hx | hx
    · exact k x (h.lab x hx)
    · rw [List.mem_singleton] at hx; subst hx; exact k x hq⟩
set_option maxRecDepth 100000 in
set_option maxHeartbeats 3200000 in
theorem ownPoints_any (A : Option Addr) (n cap : Nat) (ps : List VPnt) (w : World) (hl : IsRows pntCell 9 w w.heap.size A n ps) (hlab : ∀ x ∈ ps, IsRows labCell 2 w w.heap.size x.A x.pt.labels.length x.pt.labels ∧ x.pt.labels.length ≤ 1048576) (hn : n ≤ 1048576) :
    Calls Tryz.prog 84 #[.slice A n cap] w fun e w' => (∃ v qs, e = .returned v ∧ qs.map VPnt.pt = ps.map VPnt.pt ∧ OwnPts w.heap.size w' v qs) ∧ Below w.heap.size w w' := by
  obtain ⟨x0, hx0, hxz0, hxz1, hxz2⟩ := info_parts Tryz.infoPnt
  have hu : Tryz.prog.underlying 66 = some (.slice 73) := by kernel_rfl
  have hll := hl.1
  have HL := Lib.hid hlab
  clear hlab
  go_enter Tryz.func84, Tryz.ntmps84
  go_wp2_with fail
  go_loopw [3, 8] (fun ov i wr => Below w.heap.size w wr ∧ ∃ (k : Nat) (qs : List VPnt), k ≤ n ∧ i = .int .i64 k ∧ qs.length = k ∧ Hid (qs.map VPnt.pt = (ps.take k).map VPnt.pt) ∧ OwnPts w.heap.size wr ov qs) (fun _ i _ => n - (intOf i).toNat)
  case atStart => exact ⟨Below.refl _ _, 0, [], by omega, rfl, rfl, Lib.hid rfl, World.ownsRow_nil _ _ _ _, by simp⟩
  case round =>
    obtain ⟨hbw, k, qs, hk, rfl, hql, HQ, hO⟩ := hrel
    by_cases hlt : k < n
    · have hd : decide ((k : Int) < n) = true := decide_eq_true (by omega)
      have hk0 : (0 : Int) ≤ k := by omega
      have hk1 : (k : Int) < n := by omega
      obtain ⟨b, off, rfl, hb, hcs⟩ := (hl.below hbw).2 (by omega)
      obtain ⟨X, hX⟩ : ∃ X, ps[k]? = some X := ⟨_, List.getElem?_eq_getElem (by omega)⟩
      have q0 : wr.cell? ⟨b, off + k * 9, none⟩ = some (.slice X.A X.pt.labels.length X.c) := hcs k X 0 _ hX rfl
      have q1 : wr.cell? ⟨b, off + k * 9 + 1, none⟩ = some (.int .i64 (X.pt.role : Int)) := hcs k X 1 _ hX rfl
      have q2 : wr.cell? ⟨b, off + k * 9 + 2, none⟩ = some (.bool X.pt.inf) := hcs k X 2 _ hX rfl
      have q3 : wr.cell? ⟨b, off + k * 9 + 3, none⟩ = some (.int .i64 X.pt.bM) := hcs k X 3 _ hX rfl
      have q4 : wr.cell? ⟨b, off + k * 9 + 4, none⟩ = some (.int .i64 (X.pt.bS : Int)) := hcs k X 4 _ hX rfl
      have q5 : wr.cell? ⟨b, off + k * 9 + 5, none⟩ = some (.int .i64 X.pt.vM) := hcs k X 5 _ hX rfl
      have q6 : wr.cell? ⟨b, off + k * 9 + 6, none⟩ = some (.int .i64 (X.pt.vS : Int)) := hcs k X 6 _ hX rfl
      have q7 : wr.cell? ⟨b, off + k * 9 + 7, none⟩ = some (.bool X.pt.timed) := hcs k X 7 _ hX rfl
      have q8 : wr.cell? ⟨b, off + k * 9 + 8, none⟩ = some (.int .i64 X.pt.time) := hcs k X 8 _ hX rfl
      obtain ⟨hxl, hxn⟩ := HL.out X (List.mem_of_getElem? hX)
      have hA1 := (Aw.refl [] wr).alloc (.cells #[.slice X.A X.pt.labels.length X.c, .int .i64 (X.pt.role : Int), .bool X.pt.inf, .int .i64 X.pt.bM, .int .i64 (X.pt.bS : Int), .int .i64 X.pt.vM, .int .i64 (X.pt.vS : Int), .bool X.pt.timed, .int .i64 X.pt.time] 73)
      have hsw := hbw.size
      have kP := ownPoint_any X _ ((((hxl.below hbw).more hsw).aw hA1 (Nat.le_refl _) (by simp)).more hA1.size) hxn
      have hO1 := hO.bel hA1.none_bel
      have htk : ps.take (k + 1) = ps.take k ++ [X] := by rw [List.take_add_one, hX]; rfl
      have HN : ∀ q : VPnt, q.pt = X.pt → Hid ((qs ++ [q]).map VPnt.pt = (ps.take (k + 1)).map VPnt.pt) := fun q hq => Lib.hid (by rw [htk, List.map_append, List.map_append, HQ.out]; simp [hq])
      clear hcs hX HQ htk hxl
      go_wp2_with (first
        | (go_at_call 131; (with_reducible refine kP.mono ?_); rintro e w2 ⟨⟨A', c', rfl, hown2⟩, hb2⟩; have hs2 := hb2.size; have hO2 := hO1.bel hb2; have hsa := hA1.size)
        | (at_builtin; (refine wpList_append_lies _ (by rfl) _ _ _ (by rfl) w.heap.size 73 x0 _ 9 88 hu hx0 hxz0 hxz1 hxz2 rfl (by omega) _ qs.length (qs.flatMap pntCell) (by rfl) (hO2.own.alloc _) ⟨w2.heap.size, 0, none⟩ 1 1 (pntCell ⟨X.pt, A', c'⟩) (by rfl) (by rfl) (World.news_of_block (heap_alloc_new w2 _)) (by simp [pntCell, Value.oneCell']) (by omega) (by simp [maxLen]; omega) (by omega) (by simp; omega) (w2.heap.size + 1) (by simp) ?_); intro gg capg w4 hown4 hgrow hat hlt4))
      have hO4 := OwnPts.grow (q := ⟨X.pt, A', c'⟩) (hO2.bel ((Below.refl _ _).alloc (Nat.le_refl _) _)) ((own_lowP hown2 (by omega)).alloc _) hgrow hown4
      exact ⟨⟨(bl_alloc (bl_any (bl_alloc hbw _) hb2) _).grown hgrow (by simp; omega) (fun j e => (hO2.own.lt _ e).1), k + 1, qs ++ [⟨X.pt, A', c'⟩], by omega, rfl, by simp [hql], HN _ rfl, by rw [hql] at hO4; exact hO4⟩, by (simp only [intOf]; omega)⟩
    · have hd : decide ((k : Int) < n) = false := decide_eq_false (by omega)
      obtain rfl : k = n := by omega
      have hQ := HQ.out
      rw [List.take_of_length_le (by omega)] at hQ
      clear HQ
      obtain ⟨vA, vc, rfl⟩ := own_form hO.own
      go_wp2_with fail
      go_ret
      exact ⟨⟨_, qs, rfl, hQ, hO⟩, hbw⟩
end
section
theorem OwnPts.aw {B : Nat} {w w' : World} {S : List Nat} {v : Value} {ps : List VPnt} (h : OwnPts B w v ps) (k : Aw S w w') (hS : ∀ i ∈ S, i < B) : OwnPts B w' v ps :=
  ⟨own_aw h.own k (fun g hg hm => by have := (h.own.lt _ hg).1; have := hS g hm; omega), fun x hx => own_aw (h.lab x hx) k (fun g hg hm => by have := ((h.lab x hx).lt _ hg).1; have := hS g hm; omega)⟩
theorem OwnPts.low {B B' : Nat} {w : World} {v : Value} {ps : List VPnt} (h : OwnPts B w v ps) (k : B' ≤ B) : OwnPts B' w v ps := ⟨own_lowP h.own k, fun x hx => own_lowP (h.lab x hx) k⟩
/-- A family's points of its own. -/
structure FamO (w w' : World) (x : VFam) (vA : Option Addr) (vc : Nat) (qs : List VPnt) : Prop where
  pts : qs.map VPnt.pt = x.pts.map VPnt.pt
  own : OwnPts w.heap.size w' (.slice vA qs.length vc) qs
  b : Below w.heap.size w w'
set_option maxHeartbeats 3200000 in
theorem ownFam_any (x : VFam) (w : World) (hl : IsRows pntCell 9 w w.heap.size x.A x.pts.length x.pts) (hlab : ∀ y ∈ x.pts, IsRows labCell 2 w w.heap.size y.A y.pt.labels.length y.pt.labels ∧ y.pt.labels.length ≤ 1048576) (hn : x.pts.length ≤ 1048576) :
    Calls Tryz.prog 45 #[.agg #[.string x.name, .int .i64 (x.kind : Int), .string x.unit, .string x.help, .slice x.A x.pts.length x.c]] w fun e w' => ∃ vA vc qs, e = .returned (.agg #[.string x.name, .int .i64 (x.kind : Int), .string x.unit, .string x.help, .slice vA qs.length vc]) ∧ FamO w w' x vA vc qs := by
  have hz : (w.alloc (.cells #[.string x.name, .int .i64 (x.kind : Int), .string x.unit, .string x.help, .slice x.A x.pts.length x.c] 68)).heap.size = w.heap.size + 1 := by simp
  have hA := ((Aw.refl [] w).alloc (.cells #[.string x.name, .int .i64 (x.kind : Int), .string x.unit, .string x.help, .slice x.A x.pts.length x.c] 68)).alloc (.cells #[.string ⟨#[]⟩, .int .i64 0, .string ⟨#[]⟩, .string ⟨#[]⟩, .slice none 0 0] 68)
  have hb1 := Blk.alloc (Blk.new w 68 #[.string x.name, .int .i64 (x.kind : Int), .string x.unit, .string x.help, .slice x.A x.pts.length x.c]) (.cells #[.string ⟨#[]⟩, .int .i64 0, .string ⟨#[]⟩, .string ⟨#[]⟩, .slice none 0 0] 68)
  have hb2 := Blk.new (w.alloc (.cells #[.string x.name, .int .i64 (x.kind : Int), .string x.unit, .string x.help, .slice x.A x.pts.length x.c] 68)) 68 #[.string ⟨#[]⟩, .int .i64 0, .string ⟨#[]⟩, .string ⟨#[]⟩, .slice none 0 0]
  rw [hz] at hb2
  have hsz := hA.size
  have kP := ownPoints_any x.A x.pts.length x.c x.pts _ ((hl.aw hA (Nat.le_refl _) (by simp)).more hsz) (fun y hy => ⟨((hlab y hy).1.aw hA (Nat.le_refl _) (by simp)).more hsz, (hlab y hy).2⟩) hn
  clear hz hl hlab
  go_enter Tryz.func45, Tryz.ntmps45
  go_upto_region 1 with (fail)
  generalize (w.alloc (.cells #[.string x.name, .int .i64 (x.kind : Int), .string x.unit, .string x.help, .slice x.A x.pts.length x.c] 68)).alloc (.cells #[.string ⟨#[]⟩, .int .i64 0, .string ⟨#[]⟩, .string ⟨#[]⟩, .slice none 0 0] 68) = W at *
  have l1 := Blk.lt hb1
  have l2 := Blk.lt hb2
  generalize hb : w.heap.size = b at *
  have c4 := (Blk.cell hb1 4).trans rfl
  go_upto_region 2 with (go_at_call 84; (with_reducible refine kP.mono ?_); rintro e w1 ⟨⟨v, qs, rfl, hq, hO⟩, hbw⟩; obtain ⟨vA, vc, rfl⟩ := own_form hO.own; have hb11 := Blk.below hb1 hbw (by omega); have hb21 := Blk.below hb2 hbw (by omega); have f4 := Blk.frozen hb11 4; have a4 := (Blk.cell hb11 4).trans rfl)
  have hb12 := Blk.set_ hb11 4 (.slice vA qs.length vc)
  have hb22 := Blk.far hb21 (p := ⟨b, 4, none⟩) (by simp) (.slice vA qs.length vc)
  have hO2 := hO.aw ((Aw.refl [b] w1).setCell (p := ⟨b, 4, none⟩) (.inl (by simp)) (.slice vA qs.length vc)) (by simp; omega)
  have hbl := bl_set (hA.none_bel.trans (hbw.mono (by omega))) (p := ⟨b, 4, none⟩) (by simp; omega) (.slice vA qs.length vc)
  generalize w1.setCell ⟨b, 4, none⟩ (.slice vA qs.length vc) = w2 at *
  have q0 := (Blk.cell hb12 0).trans rfl; have q1 := (Blk.cell hb12 1).trans rfl; have q2 := (Blk.cell hb12 2).trans rfl; have q3 := (Blk.cell hb12 3).trans rfl; have q4 := (Blk.cell hb12 4).trans rfl
  have d0 := (Blk.cell hb22 0).trans rfl; have d1 := (Blk.cell hb22 1).trans rfl; have d2 := (Blk.cell hb22 2).trans rfl; have d3 := (Blk.cell hb22 3).trans rfl; have d4 := (Blk.cell hb22 4).trans rfl
  have g0 := Blk.frozen hb22 0; have g1 := Blk.frozen hb22 1; have g2 := Blk.frozen hb22 2; have g3 := Blk.frozen hb22 3; have g4 := Blk.frozen hb22 4
  go_wp2_with fail
  have hA9 := ((((((Aw.refl [b + 1] w2).setCell (p := ⟨b + 1, 0, none⟩) (.inl (by simp)) (.string x.name)).setCell (p := ⟨b + 1, 1, none⟩) (.inl (by simp)) (.int .i64 (x.kind : Int))).setCell (p := ⟨b + 1, 2, none⟩) (.inl (by simp)) (.string x.unit)).setCell (p := ⟨b + 1, 3, none⟩) (.inl (by simp)) (.string x.help)).setCell (p := ⟨b + 1, 4, none⟩) (.inl (by simp)) (.slice vA qs.length vc))
  refine bodyPost_ret (v := .agg #[.string x.name, .int .i64 (x.kind : Int), .string x.unit, .string x.help, .slice vA qs.length vc]) (by simp [results, Tryz.results45, go_sem, d0, d1, d2, d3, d4]) rfl ⟨vA, vc, qs, rfl, hq, ?_, ?_⟩
  · rw [hb]
    exact (hO2.aw hA9 (by simp; omega)).low (by omega)
  · exact hbl.trans (hA9.bel_of (fun k hk => by simp at hk; omega) (by have := hbl.size; omega))
set_option maxHeartbeats 3200000 in
theorem famSort_one (x : VFam) (w : World) (hl : IsRows pntCell 9 w w.heap.size x.A x.pts.length x.pts) (hlab : ∀ y ∈ x.pts, IsRows labCell 2 w w.heap.size y.A y.pt.labels.length y.pt.labels ∧ y.pt.labels.length ≤ 1048576) (hn : x.pts.length ≤ 1) :
    Calls Tryz.prog 23 #[.agg #[.string x.name, .int .i64 (x.kind : Int), .string x.unit, .string x.help, .slice x.A x.pts.length x.c]] w fun e w' => ∃ vA vc qs, e = .returned (.tuple #[.agg #[.string x.name, .int .i64 (x.kind : Int), .string x.unit, .string x.help, .slice vA qs.length vc], .bool true]) ∧ FamO w w' x vA vc qs := by
  have hz : (w.alloc (.cells #[.string x.name, .int .i64 (x.kind : Int), .string x.unit, .string x.help, .slice x.A x.pts.length x.c] 68)).heap.size = w.heap.size + 1 := by simp
  have hA := ((Aw.refl [] w).alloc (.cells #[.string x.name, .int .i64 (x.kind : Int), .string x.unit, .string x.help, .slice x.A x.pts.length x.c] 68)).alloc (.cells #[.string ⟨#[]⟩, .int .i64 0, .string ⟨#[]⟩, .string ⟨#[]⟩, .slice none 0 0] 68)
  have hb1 := Blk.alloc (Blk.new w 68 #[.string x.name, .int .i64 (x.kind : Int), .string x.unit, .string x.help, .slice x.A x.pts.length x.c]) (.cells #[.string ⟨#[]⟩, .int .i64 0, .string ⟨#[]⟩, .string ⟨#[]⟩, .slice none 0 0] 68)
  have hb2 := Blk.new (w.alloc (.cells #[.string x.name, .int .i64 (x.kind : Int), .string x.unit, .string x.help, .slice x.A x.pts.length x.c] 68)) 68 #[.string ⟨#[]⟩, .int .i64 0, .string ⟨#[]⟩, .string ⟨#[]⟩, .slice none 0 0]
  rw [hz] at hb2
  have hsz := hA.size
  have kP := ownFam_any x _ ((hl.aw hA (Nat.le_refl _) (by simp)).more hsz) (fun y hy => ⟨((hlab y hy).1.aw hA (Nat.le_refl _) (by simp)).more hsz, (hlab y hy).2⟩) (by omega)
  clear hz hl hlab
  go_enter Tryz.func23, Tryz.ntmps23
  go_upto_region 1 with (fail)
  generalize (w.alloc (.cells #[.string x.name, .int .i64 (x.kind : Int), .string x.unit, .string x.help, .slice x.A x.pts.length x.c] 68)).alloc (.cells #[.string ⟨#[]⟩, .int .i64 0, .string ⟨#[]⟩, .string ⟨#[]⟩, .slice none 0 0] 68) = W at *
  have l1 := Blk.lt hb1
  have l2 := Blk.lt hb2
  generalize hb : w.heap.size = b at *
  have c0 := (Blk.cell hb1 0).trans rfl; have c1 := (Blk.cell hb1 1).trans rfl; have c2 := (Blk.cell hb1 2).trans rfl; have c3 := (Blk.cell hb1 3).trans rfl; have c4 := (Blk.cell hb1 4).trans rfl
  go_upto_region 2 with (go_at_call 45; (with_reducible refine kP.mono ?_); rintro e w1 ⟨vA, vc, qs, rfl, hF⟩; have hb11 := Blk.below hb1 hF.b (by omega); have hb21 := Blk.below hb2 hF.b (by omega); have f0 := Blk.frozen hb11 0; have f1 := Blk.frozen hb11 1; have f2 := Blk.frozen hb11 2; have f3 := Blk.frozen hb11 3; have f4 := Blk.frozen hb11 4; have a0 := (Blk.cell hb11 0).trans rfl; have a1 := (Blk.cell hb11 1).trans rfl; have a2 := (Blk.cell hb11 2).trans rfl; have a3 := (Blk.cell hb11 3).trans rfl; have a4 := (Blk.cell hb11 4).trans rfl)
  have hq := hF.pts
  have hql : qs.length ≤ 1 := by have := congrArg List.length hq; simp at this; omega
  have hO := hF.own
  have hbw := hF.b
  have hb12 := (Blk.set_ (Blk.set_ (Blk.set_ (Blk.set_ (Blk.set_ hb11 0 (.string x.name)) 1 (.int .i64 (x.kind : Int))) 2 (.string x.unit)) 3 (.string x.help)) 4 (.slice vA qs.length vc))
  have hAb := ((((((Aw.refl [b] w1).setCell (p := ⟨b, 0, none⟩) (.inl (by simp)) (.string x.name)).setCell (p := ⟨b, 1, none⟩) (.inl (by simp)) (.int .i64 (x.kind : Int))).setCell (p := ⟨b, 2, none⟩) (.inl (by simp)) (.string x.unit)).setCell (p := ⟨b, 3, none⟩) (.inl (by simp)) (.string x.help)).setCell (p := ⟨b, 4, none⟩) (.inl (by simp)) (.slice vA qs.length vc))
  have hb22 := Blk.aw hb21 hAb (by simp)
  have hO2 := hO.aw hAb (by simp; omega)
  have hbl := (hA.none_bel.trans (hbw.mono (by omega))).trans (hAb.bel_of (B := w.heap.size) (by simp; omega) (by have := hbw.size; omega))
  clear hAb hF
  generalize (((((w1.setCell ⟨b, 0, none⟩ (.string x.name)).setCell ⟨b, 1, none⟩ (.int .i64 (x.kind : Int))).setCell ⟨b, 2, none⟩ (.string x.unit)).setCell ⟨b, 3, none⟩ (.string x.help)).setCell ⟨b, 4, none⟩ (.slice vA qs.length vc)) = w2 at *
  have q0 := (Blk.cell hb12 0).trans rfl; have q1 := (Blk.cell hb12 1).trans rfl; have q2 := (Blk.cell hb12 2).trans rfl; have q3 := (Blk.cell hb12 3).trans rfl; have q4 := (Blk.cell hb12 4).trans rfl
  have d0 := (Blk.cell hb22 0).trans rfl; have d1 := (Blk.cell hb22 1).trans rfl; have d2 := (Blk.cell hb22 2).trans rfl; have d3 := (Blk.cell hb22 3).trans rfl; have d4 := (Blk.cell hb22 4).trans rfl
  have g0 := Blk.frozen hb22 0; have g1 := Blk.frozen hb22 1; have g2 := Blk.frozen hb22 2; have g3 := Blk.frozen hb22 3; have g4 := Blk.frozen hb22 4
  have kS := fun W f => psortOne vA vc f qs.length (by omega) W
  have kR := fun W => risesOne vA vc qs.length (by omega) W
  clear hb11 hb21 hb1 hb2
  go_wp2_with (first
    | (go_at_call 46; (with_reducible refine (kS _ _).mono ?_); rintro e w3 ⟨rfl, hw3⟩; rw [hw3]; clear hw3 w3)
    | (go_at_call 48; (with_reducible refine (kR _).mono ?_); rintro e w4 ⟨rfl, hw4⟩; rw [hw4]; clear hw4 w4))
  have hA9 := ((((((Aw.refl [b + 1] w2).setCell (p := ⟨b + 1, 0, none⟩) (.inl (by simp)) (.string x.name)).setCell (p := ⟨b + 1, 1, none⟩) (.inl (by simp)) (.int .i64 (x.kind : Int))).setCell (p := ⟨b + 1, 2, none⟩) (.inl (by simp)) (.string x.unit)).setCell (p := ⟨b + 1, 3, none⟩) (.inl (by simp)) (.string x.help)).setCell (p := ⟨b + 1, 4, none⟩) (.inl (by simp)) (.slice vA qs.length vc))
  refine bodyPost_ret (v := .tuple #[.agg #[.string x.name, .int .i64 (x.kind : Int), .string x.unit, .string x.help, .slice vA qs.length vc], .bool true]) (by simp [results, Tryz.results23, go_sem, d0, d1, d2, d3, d4]) rfl ⟨vA, vc, qs, rfl, hq, ?_, ?_⟩
  · rw [hb]
    exact (hO2.aw hA9 (by simp; omega)).low (by omega)
  · exact hbl.trans (hA9.bel_of (fun k hk => by simp at hk; omega) (by have := hbl.size; omega))
end
section
def VFam.turnP (x : VFam) (qs : List VPnt) (A : Option Addr) (c : Nat) : VFam := { x with pts := qs, A := A, c := c }
/-- A family whose points were put anew. -/
theorem FamsAt.turnP {w w' : World} {base g fc i : Nat} {l : List VFam} {x : VFam} {qs : List VPnt} {vA : Option Addr} {vc : Nat} (h : FamsAt w base (.slice (some ⟨g, 0, none⟩) l.length fc) l) (hx : l[i]? = some x) (hb : Below w.heap.size w w') (hbase : base ≤ w.heap.size) (hO : OwnPts w.heap.size w' (.slice vA qs.length vc) qs) :
    FamsAt (((((w'.setCell ⟨g, i * 5, none⟩ (.string x.name)).setCell ⟨g, i * 5 + 1, none⟩ (.int .i64 (x.kind : Int))).setCell ⟨g, i * 5 + 2, none⟩ (.string x.unit)).setCell ⟨g, i * 5 + 3, none⟩ (.string x.help)).setCell ⟨g, i * 5 + 4, none⟩ (.slice vA qs.length vc)) base (.slice (some ⟨g, 0, none⟩) l.length fc) (l.set i (x.turnP qs vA vc)) := by
  have h' := h.bel hb
  have hA : Aw [g] w' (((((w'.setCell ⟨g, i * 5, none⟩ (.string x.name)).setCell ⟨g, i * 5 + 1, none⟩ (.int .i64 (x.kind : Int))).setCell ⟨g, i * 5 + 2, none⟩ (.string x.unit)).setCell ⟨g, i * 5 + 3, none⟩ (.string x.help)).setCell ⟨g, i * 5 + 4, none⟩ (.slice vA qs.length vc)) := (((((Aw.refl _ _).setCell (.inl (by simp)) _).setCell (.inl (by simp)) _).setCell (.inl (by simp)) _).setCell (.inl (by simp)) _).setCell (.inl (by simp)) _
  have hgl : g < w.heap.size := (h.own.lt g rfl).2
  have hO' := hO.aw hA (by simpa using hgl)
  have hmem : ∀ f, f ∈ l.set i (x.turnP qs vA vc) → f = x.turnP qs vA vc ∨ f ∈ l := fun f hf => by
    rcases List.mem_or_eq_of_mem_set hf with h1 | h1
    · exact .inr h1
    · exact .inl h1
  have hpt : ∀ f ∈ l, (((((w'.setCell ⟨g, i * 5, none⟩ (.string x.name)).setCell ⟨g, i * 5 + 1, none⟩ (.int .i64 (x.kind : Int))).setCell ⟨g, i * 5 + 2, none⟩ (.string x.unit)).setCell ⟨g, i * 5 + 3, none⟩ (.string x.help)).setCell ⟨g, i * 5 + 4, none⟩ (.slice vA qs.length vc)).ownsRow base 73 9 f.pv f.pts.length (f.pts.flatMap pntCell) := fun f hf => own_aw (h'.pts f hf) hA (fun b hb hs => by
    rw [List.mem_singleton] at hs; subst hs
    exact own_own_ne (h'.pts f hf) h'.own (by decide) b hb rfl)
  refine ⟨?_, fun f hf => ?_, ?_, fun f hf y hy => ?_⟩
  · have h0 := (h'.own.stored (i * 5 + 0) (.string x.name)).1
    rw [flat_setk (y := x) hx (by omega) rfl, set_sameP hx] at h0
    have h1 := (h0.stored (i * 5 + 1) (.int .i64 (x.kind : Int))).1
    rw [flat_setk (y := x) hx (by omega) rfl, set_sameP hx] at h1
    have h2 := (h1.stored (i * 5 + 2) (.string x.unit)).1
    rw [flat_setk (y := x) hx (by omega) rfl, set_sameP hx] at h2
    have h3 := (h2.stored (i * 5 + 3) (.string x.help)).1
    rw [flat_setk (y := x) hx (by omega) rfl, set_sameP hx] at h3
    have h4 := (h3.stored (i * 5 + 4) (.slice vA qs.length vc)).1
    rw [flat_setk (y := x.turnP qs vA vc) hx (by omega) rfl] at h4
    rw [List.length_set]
    exact h4
  · rcases hmem f hf with rfl | hf
    · exact own_lowP hO'.own hbase
    · exact hpt f hf
  · rw [List.pairwise_iff_getElem]
    intro j k hj hk hjk b hb hc
    rw [List.length_set] at hj hk
    have hd := List.pairwise_iff_getElem.1 h.dis j k hj hk hjk
    have hnew : ∀ n (hn : n < l.length) b, (x.turnP qs vA vc).pv.ownBlock = some b → l[n].pv.ownBlock ≠ some b := fun n hn b hb hc => by
      have h1 := (hO.own.lt b hb).1
      have h2 := ((h.pts l[n] (List.getElem_mem hn)).lt b hc).2
      omega
    rw [List.getElem_set] at hb hc
    split at hb
    · split at hc
      · omega
      · exact hnew k hk b hb hc
    · split at hc
      · exact hnew j hj b hc hb
      · exact hd b hb hc
  · rcases hmem f hf with rfl | hf
    · exact own_lowP (hO'.lab y hy) hbase
    · exact own_aw (h'.lab f hf y hy) hA (fun b hb hs => by
        rw [List.mem_singleton] at hs; subst hs
        exact own_own_ne (h'.lab f hf y hy) h'.own (by decide) b hb rfl)
end
section
open Go.RowKit Go.Sort Go.Shelf
theorem aw_sortK {α : Type} [Inhabited α] {f : α → List Value} {size : Nat} {w : World} {g m : Nat} {d : Array α} {os : Array Obj} : Aw [g] w (sortWorldK f size w g 0 m d os) := by
  have hb := below_sortK (f := f) (size := size) (m := m) (d := d) (os := os) (g := g) (B := 0) (Below.refl 0 w) (Nat.zero_le _) (Nat.zero_le g)
  refine ⟨hb.os, hb.tape, hb.output, hb.size, fun k hk hn => ?_⟩
  have h1 : (putRow id (Sort.ahead w m) g 0 (flatK f size d)).heap[k]? = w.heap[k]? := by
    unfold putRow mapBlock
    show ((Sort.ahead w m).heap.modify g _)[k]? = _
    rw [Array.getElem?_modify, if_neg (fun e => hn (by simp [e]))]
    rfl
  have hsz : (putRow id (Sort.ahead w m) g 0 (flatK f size d)).heap.size = w.heap.size := by simp [putRow, mapBlock, Sort.ahead]
  exact (Sort.heap_grow_old _ _ (by show k < (putRow id (Sort.ahead w m) g 0 (flatK f size d)).heap.size; rw [hsz]; exact hk)).trans h1
theorem cmpB_cmp : CmpL Lib.compareBytes := by
  have hle : ∀ a b : List UInt8, Lib.compareBytes a b ≤ 0 ↔ ¬ b < a := fun a b => by
    rw [← cmpB_neg b a, cmpB_swap a b]; omega
  refine ⟨fun x y => cmpB_swap x y, fun x y z h1 h2 => ?_⟩
  rw [hle] at *
  exact fun h => List.not_lt.2 (List.le_trans (List.not_lt.1 h1) (List.not_lt.1 h2)) h
theorem swo_of {α : Type} {c : α → α → Int} (h : CmpL c) : SWO (ltOf c) where
  irrefl x := by unfold ltOf; exact decide_eq_false (by rw [h.self]; omega)
  trans x y z h1 h2 := by unfold ltOf at *; rw [decide_eq_true_eq] at *; exact h.lt h1 (by omega)
  ntrans x y z h1 h2 := by
    unfold ltOf at *
    rw [decide_eq_false_iff_not] at *
    have q1 : c y x ≤ 0 := by rw [h.swap x y]; omega
    have q2 : c z y ≤ 0 := by rw [h.swap y z]; omega
    have := h.trans z y x q2 q1
    rw [h.swap x z] at this
    omega
def cmpFam (x y : MFam) : Int := Lib.compareBytes x.name.data.toList y.name.data.toList
def cmpVF (x y : VFam) : Int := Lib.compareBytes x.name.data.toList y.name.data.toList
theorem cmpFam_cmp : CmpL cmpFam := cmpB_cmp.comp (fun x : MFam => x.name.data.toList)
theorem cmpVF_cmp : CmpL cmpVF := cmpB_cmp.comp (fun x : VFam => x.name.data.toList)
theorem famLess_any (x y : VFam) (W : World) : Calls Tryz.prog 25 #[.agg (famCell x).toArray, .agg (famCell y).toArray] W fun e w' => e = .returned (.int .i64 (cmpVF x y)) ∧ ∃ q os', w' = grow (W.drewN q) os' := by
  show Calls Tryz.prog 25 #[.agg #[.string x.name, .int .i64 (x.kind : Int), .string x.unit, .string x.help, .slice x.A x.pts.length x.c], .agg #[.string y.name, .int .i64 (y.kind : Int), .string y.unit, .string y.help, .slice y.A y.pts.length y.c]] W fun e w' => e = .returned (.int .i64 (cmpVF x y)) ∧ ∃ q os', w' = grow (W.drewN q) os'
  have hc := fun W => Tryz.strings_Compare x.name y.name W
  have hu : cmpVF x y = Lib.compareBytes x.name.data.toList y.name.data.toList := rfl
  rw [hu]
  generalize Lib.compareBytes x.name.data.toList y.name.data.toList = r at hc
  clear hu
  go_enter Tryz.func25, Tryz.ntmps25
  go_wp2_with (go_at_call 26; refine (hc _).mono ?_; rintro e w1 ⟨rfl, rfl⟩)
  go_ret
  exact ⟨rfl, 0, _, by rw [alloc_eq_grow, alloc_eq_grow, grow_grow]; rfl⟩
theorem sorted_list {α : Type} [Inhabited α] {c : α → α → Int} (h : CmpL c) {d : Array α} (hs : SortedIn (ltOf c) 0 d.size d) : d.toList.Pairwise fun x y => c x y ≤ 0 := by
  rw [List.pairwise_iff_getElem]
  intro i j hi hj hij
  have := hs i j (Nat.zero_le _) hij (by simpa using hj)
  unfold ltOf at this
  rw [decide_eq_false_iff_not] at this
  have e : ∀ k (hk : k < d.toList.length), d[k]! = d.toList[k] := fun k hk => by
    rw [getElem!_pos d k (by simpa using hk)]; simp
  rw [e j hj, e i hi] at this
  rw [h.swap d.toList[j] d.toList[i]]
  omega
set_option maxRecDepth 100000 in
set_option maxHeartbeats 1600000 in
theorem famsSort_any (base : Nat) (fv : Value) (fs : List VFam) (w : World) (h : FamsAt w base fv fs) (hd : fs.Pairwise fun f g => f.name.data.toList ≠ g.name.data.toList) (hn : fs.length ≤ 1048576) :
    Calls Tryz.prog 24 #[fv, .func (.func 25) #[] #[]] w fun e w' => e = .returned (.tuple #[]) ∧ ∃ fs', fs'.map VFam.fam = sortC cmpFam (fs.map VFam.fam) ∧ fs'.Perm fs ∧ FamsAt w' base fv fs' ∧ Below base w w' := by
  rcases h.own.2 with ⟨rfl, h0⟩ | ⟨g, cap, cur, rfl, hg, hh, hnc, hcm, hcs, htk⟩
  · have hq : fs = [] := List.length_eq_zero_iff.1 h0
    subst hq
    have hsn := AnyF.slices_SortFunc_none Tryz.sortFam none 0 (.func (.func 25) #[] #[]) w
    change Calls Tryz.prog 24 _ _ _ at hsn
    refine hsn.mono fun e w' hh => ⟨hh.1, [], by simp [sortC], List.Perm.refl _, ?_, ?_⟩
    · rw [hh.2]; exact h
    · rw [hh.2]; exact Below.refl _ _
  · by_cases h0 : fs.length = 0
    · have hq : fs = [] := List.length_eq_zero_iff.1 h0
      subst hq
      have hsn := AnyF.slices_SortFunc_none Tryz.sortFam (some ⟨g, 0, none⟩) cap (.func (.func 25) #[] #[]) w
      change Calls Tryz.prog 24 _ _ _ at hsn
      refine hsn.mono fun e w' hh => ⟨hh.1, [], by simp [sortC], List.Perm.refl _, ?_, ?_⟩
      · rw [hh.2]; exact h
      · rw [hh.2]; exact Below.refl _ _
    · have hgl := h.g_lt.2
      have hHK := holdsK_own (f := famCell) (fun _ => rfl) (by decide) h.own rfl
      have eg : ∀ args w, (callFunc 25 args).run Tryz.prog w = .ok (.enter 25 args) w := enters_of Tryz.func25 (by kernel_rfl) rfl
      have aE : ∀ w, (isAgg 68).run Tryz.prog w = .ok true w := fun w => by kernel_rfl
      have zE : ∀ w, (Go.sizeOf 68).run Tryz.prog w = .ok 5 w := fun w => by kernel_rfl
      have hsf := AnyQ.slices_SortFunc Tryz.sortFam 5 aE zE famCell (fun _ => rfl) (fun x v hv => by simp [famCell] at hv; rcases hv with rfl | rfl | rfl | rfl | rfl <;> rfl) cmpVF (swo_of cmpVF_cmp) 25 #[] g 0 cap fs.toArray w eg (fun _ _ _ _ x y => famLess_any x y _) hHK hgl (by simp; omega)
      change Calls Tryz.prog 24 _ _ _ at hsf
      have hLs : fs.toArray.size = fs.length := by simp
      rw [hLs] at hsf
      refine hsf.mono fun e w2 hh => ?_
      obtain ⟨rfl, d', m, os, hp, hs, hw2⟩ := hh
      have hds : d'.size = fs.length := hp.1.trans hLs
      have hH2 : HoldsK famCell 5 w2 g 0 d' := by rw [hw2]; exact holdsK_sortWorldK famCell 5 w g 0 m fs.toArray d' os hgl hHK hp.1
      have ho2 := own_sortK (f := famCell) (fun _ => rfl) h.own hds hw2 hH2
      have hpm : d'.toList.Perm fs := by have := perm_of (d := fs.toArray) (by rw [hLs]; exact hp); simpa using this
      have hA : Aw [g] w w2 := by rw [hw2]; exact aw_sortK
      have hle := sorted_list cmpVF_cmp (d := d') (by rw [hds]; exact hs)
      have hdn : fs.Pairwise fun x y => cmpVF x y ≠ 0 := hd.imp (fun {x y} hne e => hne ((cmpB_zero _ _).1 e))
      have hdn' : d'.toList.Pairwise fun x y => cmpVF x y ≠ 0 := (hpm.symm.pairwise_iff (fun {x y} h' => by rw [cmpVF_cmp.swap x y]; omega)).1 hdn
      have hst := cmpVF_cmp.strict hle hdn'
      have hlen : d'.toList.length = fs.length := hpm.length_eq
      have far : ∀ {e : TypeId} {size n : Nat} {v : Value} {xs : List Value}, w.ownsRow base e size v n xs → e ≠ 68 → w2.ownsRow base e size v n xs := fun h' he => own_aw h' hA (fun b hb hm => by
        rw [List.mem_singleton] at hm; subst hm
        exact own_own_ne h' h.own he b hb rfl)
      refine ⟨rfl, d'.toList, cmpFam_cmp.sort_eq (hpm.map _) (by rw [List.pairwise_map]; exact hst), hpm, ⟨by rw [hlen]; exact ho2, fun f hf => far (h.pts f (hpm.mem_iff.1 hf)) (by decide), (hpm.symm.pairwise_iff (fun {x y} h' b hb hc => h' b hc hb)).1 h.dis, fun f hf x hx => far (h.lab f (hpm.mem_iff.1 hf) x hx) (by decide)⟩, hA.bel_of (by simpa using hg) (by omega)⟩
end
section
open Go.RowKit Go.Sort Go.Shelf
theorem rows_offP {α : Type} {f : α → List Value} {size B n : Nat} {A : Option Addr} {xs : List α} {S : List Nat} {w w' : World} (h : IsRows f size w B A n xs) (k : Aw S w w') (hB : B ≤ w.heap.size) (hS : ∀ b o, A = some ⟨b, o, none⟩ → b ∉ S) : IsRows f size w' B A n xs :=
  ⟨h.1, fun hn => by
    obtain ⟨b, off, e, hb, hc⟩ := h.2 hn
    exact ⟨b, off, e, hb, fun i x j u hx hu => (World.cell?_of_block (w := w) (a := ⟨b, off + (i * size + j), none⟩) (k.block b (by omega) (hS b off e))).trans (hc i x j u hx hu)⟩⟩
/-- A point whose labels stand, and not in the row that is sorted. -/
structure PL (w0 : World) (blk : Nat) (x : VPnt) : Prop where
  rows : IsRows labCell 2 w0 w0.heap.size x.A x.pt.labels.length x.pt.labels
  ok : PntOk x.pt
  ne : ∀ b o, x.A = some ⟨b, o, none⟩ → b ∉ [blk]
/-- A world of the sort's: the row holds d, nothing else that was there has turned. -/
structure PR (w0 W : World) (B blk cap : Nat) (d : Array VPnt) : Prop where
  own : W.ownsRow B 73 9 (.slice (some ⟨blk, 0, none⟩) d.size cap) d.size (d.toList.flatMap pntCell)
  aw : Aw [blk] w0 W
  pl : ∀ i, i < d.size → PL w0 blk d[i]!
section
variable {w0 w w' : World} {B blk cap : Nat} {d : Array VPnt}
theorem PR.call (h : PR w0 w B blk cap d) (k : Aw [] w w') : PR w0 w' B blk cap d := ⟨own_aw h.own k (by simp), h.aw.trans (k.mono (by simp)), h.pl⟩
theorem PR.drew (h : PR w0 w B blk cap d) : PR w0 w.drew B blk cap d := h.call (Aw.refl [] w).drew
theorem PR.row (h : PR w0 w B blk cap d) {i : Nat} (hi : i < d.size) : w.cell? ⟨blk, i * 9, none⟩ = some (.slice d[i]!.A d[i]!.pt.labels.length d[i]!.c) ∧ w.cell? ⟨blk, i * 9 + 1, none⟩ = some (.int .i64 (d[i]!.pt.role : Int)) ∧ w.cell? ⟨blk, i * 9 + 2, none⟩ = some (.bool d[i]!.pt.inf) ∧ w.cell? ⟨blk, i * 9 + 3, none⟩ = some (.int .i64 d[i]!.pt.bM) ∧ w.cell? ⟨blk, i * 9 + 4, none⟩ = some (.int .i64 (d[i]!.pt.bS : Int)) ∧ w.cell? ⟨blk, i * 9 + 5, none⟩ = some (.int .i64 d[i]!.pt.vM) ∧ w.cell? ⟨blk, i * 9 + 6, none⟩ = some (.int .i64 (d[i]!.pt.vS : Int)) ∧ w.cell? ⟨blk, i * 9 + 7, none⟩ = some (.bool d[i]!.pt.timed) ∧ w.cell? ⟨blk, i * 9 + 8, none⟩ = some (.int .i64 d[i]!.pt.time) := by
  obtain ⟨A, c, e, hr⟩ := own_rws (f := pntCell) (l := d.toList) (fun _ => rfl) h.own (by simp)
  injection e with e1 e2 e3
  subst e1
  obtain ⟨b, off, e4, hb, hc⟩ := hr.2 (by omega)
  injection e4 with e4
  injection e4 with e5 e6
  subst e5; subst e6
  have hx : d.toList[i]? = some d[i]! := by rw [Array.getElem?_toList, getElem!_pos d i hi, Array.getElem?_eq_getElem hi]
  refine ⟨?_, ?_, ?_, ?_, ?_, ?_, ?_, ?_, ?_⟩
  all_goals
    first
      | (have := hc i _ 0 _ hx rfl; simpa using this)
      | (have := hc i _ 1 _ hx rfl; simpa using this)
      | (have := hc i _ 2 _ hx rfl; simpa using this)
      | (have := hc i _ 3 _ hx rfl; simpa using this)
      | (have := hc i _ 4 _ hx rfl; simpa using this)
      | (have := hc i _ 5 _ hx rfl; simpa using this)
      | (have := hc i _ 6 _ hx rfl; simpa using this)
      | (have := hc i _ 7 _ hx rfl; simpa using this)
      | (have := hc i _ 8 _ hx rfl; simpa using this)
theorem PR.fz (h : PR w0 w B blk cap d) (o : Nat) : w.frozen? ⟨blk, o, none⟩ = false := h.own.frozenAt o
theorem PR.lab (h : PR w0 w B blk cap d) {i : Nat} (hi : i < d.size) : IsRows labCell 2 w w.heap.size d[i]!.A d[i]!.pt.labels.length d[i]!.pt.labels :=
  (rows_offP (h.pl i hi).rows h.aw (Nat.le_refl _) (h.pl i hi).ne).more h.aw.size
end
theorem flat_set9 (l : List VPnt) (i : Nat) (y : VPnt) (hi : i < l.length) : ((((((((((l.flatMap pntCell).set (i * 9) (.slice y.A y.pt.labels.length y.c)).set (i * 9 + 1) (.int .i64 (y.pt.role : Int))).set (i * 9 + 2) (.bool y.pt.inf)).set (i * 9 + 3) (.int .i64 y.pt.bM)).set (i * 9 + 4) (.int .i64 (y.pt.bS : Int))).set (i * 9 + 5) (.int .i64 y.pt.vM)).set (i * 9 + 6) (.int .i64 (y.pt.vS : Int))).set (i * 9 + 7) (.bool y.pt.timed)).set (i * 9 + 8) (.int .i64 y.pt.time)) = (l.set i y).flatMap pntCell := by
  induction l generalizing i with
  | nil => simp at hi
  | cons z r ih =>
    cases i with
    | zero =>
      simp only [Nat.zero_mul, Nat.zero_add]
      rfl
    | succ i =>
      have e : ∀ (r : List Value) k u, (pntCell z ++ r).set ((i + 1) * 9 + k) u = pntCell z ++ r.set (i * 9 + k) u := fun r k u => by
        rw [List.set_append_right _ _ (by show 9 ≤ (i + 1) * 9 + k; omega)]
        congr 2
        show (i + 1) * 9 + k - 9 = _
        omega
      have e0 : ∀ (r : List Value) u, (pntCell z ++ r).set ((i + 1) * 9) u = pntCell z ++ r.set (i * 9) u := fun r u => e r 0 u
      rw [List.set_cons_succ, List.flatMap_cons, List.flatMap_cons, ← ih i (by simpa using hi)]
      simp only [e, e0]
theorem own_set9 {W : World} {B blk cap : Nat} {l : List VPnt} (i : Nat) (y : VPnt) (hi : i < l.length) (h : W.ownsRow B 73 9 (.slice (some ⟨blk, 0, none⟩) l.length cap) l.length (l.flatMap pntCell)) :
    (((((((((W.setCell ⟨blk, i * 9, none⟩ (.slice y.A y.pt.labels.length y.c)).setCell ⟨blk, i * 9 + 1, none⟩ (.int .i64 (y.pt.role : Int))).setCell ⟨blk, i * 9 + 2, none⟩ (.bool y.pt.inf)).setCell ⟨blk, i * 9 + 3, none⟩ (.int .i64 y.pt.bM)).setCell ⟨blk, i * 9 + 4, none⟩ (.int .i64 (y.pt.bS : Int))).setCell ⟨blk, i * 9 + 5, none⟩ (.int .i64 y.pt.vM)).setCell ⟨blk, i * 9 + 6, none⟩ (.int .i64 (y.pt.vS : Int))).setCell ⟨blk, i * 9 + 7, none⟩ (.bool y.pt.timed)).setCell ⟨blk, i * 9 + 8, none⟩ (.int .i64 y.pt.time)).ownsRow B 73 9 (.slice (some ⟨blk, 0, none⟩) l.length cap) l.length ((l.set i y).flatMap pntCell) := by
  rw [← flat_set9 l i y hi]
  exact (((((((((h.stored _ _).1.stored _ _).1.stored _ _).1.stored _ _).1.stored _ _).1.stored _ _).1.stored _ _).1.stored _ _).1.stored _ _).1
theorem PR.swap {w0 w : World} {B blk cap : Nat} {d : Array VPnt} (h : PR w0 w B blk cap d) {i j : Nat} (hi : i < d.size) (hj : j < d.size) (x y : VPnt) (hx : d[i]! = x) (hy : d[j]! = y) :
    PR w0 ((((((((((((((((((w.setCell ⟨blk, i * 9, none⟩ (.slice y.A y.pt.labels.length y.c)).setCell ⟨blk, i * 9 + 1, none⟩ (.int .i64 (y.pt.role : Int))).setCell ⟨blk, i * 9 + 2, none⟩ (.bool y.pt.inf)).setCell ⟨blk, i * 9 + 3, none⟩ (.int .i64 y.pt.bM)).setCell ⟨blk, i * 9 + 4, none⟩ (.int .i64 (y.pt.bS : Int))).setCell ⟨blk, i * 9 + 5, none⟩ (.int .i64 y.pt.vM)).setCell ⟨blk, i * 9 + 6, none⟩ (.int .i64 (y.pt.vS : Int))).setCell ⟨blk, i * 9 + 7, none⟩ (.bool y.pt.timed)).setCell ⟨blk, i * 9 + 8, none⟩ (.int .i64 y.pt.time)).setCell ⟨blk, j * 9, none⟩ (.slice x.A x.pt.labels.length x.c)).setCell ⟨blk, j * 9 + 1, none⟩ (.int .i64 (x.pt.role : Int))).setCell ⟨blk, j * 9 + 2, none⟩ (.bool x.pt.inf)).setCell ⟨blk, j * 9 + 3, none⟩ (.int .i64 x.pt.bM)).setCell ⟨blk, j * 9 + 4, none⟩ (.int .i64 (x.pt.bS : Int))).setCell ⟨blk, j * 9 + 5, none⟩ (.int .i64 x.pt.vM)).setCell ⟨blk, j * 9 + 6, none⟩ (.int .i64 (x.pt.vS : Int))).setCell ⟨blk, j * 9 + 7, none⟩ (.bool x.pt.timed)).setCell ⟨blk, j * 9 + 8, none⟩ (.int .i64 x.pt.time)) B blk cap (swp d i j) := by
  refine ⟨?_, ?_, ?_⟩
  · have h1 := own_set9 i y (by simpa using hi) (l := d.toList) (by simpa using h.own)
    have h2 := own_set9 j x (by simpa using hj) (l := d.toList.set i y) (by simpa using h1)
    have e : (swp d i j).toList = (d.toList.set i y).set j x := by unfold swp; rw [hx, hy]; simp
    rw [e, size_swp]
    simpa using h2
  · exact ((((((((((((((((((h.aw).setCell (.inl (by simp)) _).setCell (.inl (by simp)) _).setCell (.inl (by simp)) _).setCell (.inl (by simp)) _).setCell (.inl (by simp)) _).setCell (.inl (by simp)) _).setCell (.inl (by simp)) _).setCell (.inl (by simp)) _).setCell (.inl (by simp)) _).setCell (.inl (by simp)) _).setCell (.inl (by simp)) _).setCell (.inl (by simp)) _).setCell (.inl (by simp)) _).setCell (.inl (by simp)) _).setCell (.inl (by simp)) _).setCell (.inl (by simp)) _).setCell (.inl (by simp)) _).setCell (.inl (by simp)) _
  · intro k hk
    rw [size_swp] at hk
    by_cases hkj : k = j
    · have : (swp d i j)[k]! = d[i]! := by subst hkj; unfold swp; simp [hk]
      rw [this]; exact h.pl i hi
    · by_cases hki : k = i
      · have : (swp d i j)[k]! = d[j]! := by subst hki; unfold swp; simp [hk, Ne.symm hkj]
        rw [this]; exact h.pl j hj
      · have : (swp d i j)[k]! = d[k]! := by unfold swp; simp [hk, Ne.symm hkj, Ne.symm hki]
        rw [this]; exact h.pl k hk
def pcf (x y : VPnt) : Int := cmpPntK x.pt y.pt
theorem cmp_pr {w0 w' : World} {B blk cap : Nat} {d : Array VPnt} {i j : Nat} (hi : i < d.size) (hj : j < d.size) (x y : VPnt) (hx : d[i]! = x) (hy : d[j]! = y) (h : PR w0 w' B blk cap d) :
    Calls Tryz.prog 47 #[.agg #[.slice x.A x.pt.labels.length x.c, .int .i64 (x.pt.role : Int), .bool x.pt.inf, .int .i64 x.pt.bM, .int .i64 (x.pt.bS : Int), .int .i64 x.pt.vM, .int .i64 (x.pt.vS : Int), .bool x.pt.timed, .int .i64 x.pt.time], .agg #[.slice y.A y.pt.labels.length y.c, .int .i64 (y.pt.role : Int), .bool y.pt.inf, .int .i64 y.pt.bM, .int .i64 (y.pt.bS : Int), .int .i64 y.pt.vM, .int .i64 (y.pt.vS : Int), .bool y.pt.timed, .int .i64 y.pt.time]] w' fun e w2 => e = .returned (.int .i64 (pcf x y)) ∧ Aw [] w' w2 := by
  have h1 := h.lab hi
  have h2 := h.lab hj
  have h3 := (h.pl i hi).ok
  have h4 := (h.pl j hj).ok
  rw [hx] at h1 h3
  rw [hy] at h2 h4
  have e := pcompare_any x y w' h1 h2 h3 h4
  rw [cmpPnt_key _ _ h3.bm h4.bm] at e
  exact e
theorem pcf_cmp : CmpL pcf := cmpPntK_cmp.comp VPnt.pt
theorem swoP : SWO (ltOf pcf) where
  irrefl x := by unfold ltOf; exact decide_eq_false (by rw [pcf_cmp.self]; omega)
  trans x y z h1 h2 := by unfold ltOf at *; rw [decide_eq_true_eq] at *; exact pcf_cmp.lt h1 (by omega)
  ntrans x y z h1 h2 := by
    unfold ltOf at *
    rw [decide_eq_false_iff_not] at *
    have q1 : pcf y x ≤ 0 := by rw [pcf_cmp.swap x y]; omega
    have q2 : pcf z y ≤ 0 := by rw [pcf_cmp.swap y z]; omega
    have := pcf_cmp.trans z y x q2 q1
    rw [pcf_cmp.swap x z] at this
    omega
set_option maxRecDepth 100000 in
set_option maxHeartbeats 12800000 in
theorem pins_any (w0 : World) (B blk cap a b : Nat) (d : Array VPnt) (w : World) (h : PR w0 w B blk cap d) (hab : a ≤ b) (hb : b ≤ d.size) (hsz : d.size ≤ 1048576) :
    Calls Tryz.prog 132 #[.slice (some ⟨blk, 0, none⟩) d.size cap, .int .i64 (a : Int), .int .i64 (b : Int), .func (.func 47) #[] #[]] w fun e w' => e = .returned (.tuple #[]) ∧ PR w0 w' B blk cap (insertionSort (ltOf pcf) d a b) := by
  have H := Lib.hid h
  clear h
  go_enter Tryz.func132, Tryz.ntmps132
  go_wp2_with fail
  go_loopw [8] (fun vi wr => ∃ (i : Nat) (dk : Array VPnt), vi = .int .i64 (i : Int) ∧ a < i ∧ i ≤ b + 1 ∧ dk.size = d.size ∧ Hid (PR w0 wr B blk cap dk) ∧ Hid (insOuter (ltOf pcf) a b i dk = insertionSort (ltOf pcf) d a b)) (fun vi _ => b + 1 - (intOf vi).toNat)
  case atStart => exact ⟨a + 1, d, by simp, by omega, by omega, rfl, H, Lib.hid rfl⟩
  case round =>
    obtain ⟨i, dk, rfl, hai, hib, hsk, HP, HO⟩ := hrel
    clear H
    by_cases hlt : i < b
    · have hltz : decide ((i : Int) < (b : Int)) = true := decide_eq_true (by omega)
      go_wp2_with fail
      go_loopw [9] (fun vj wr2 => ∃ (j : Nat) (dj : Array VPnt), vj = .int .i64 (j : Int) ∧ a ≤ j ∧ j ≤ i ∧ dj.size = d.size ∧ Hid (PR w0 wr2 B blk cap dj) ∧ Hid (insInner (ltOf pcf) a j dj = insInner (ltOf pcf) a i dk)) (fun vj _ => (intOf vj).toNat)
      case atStart => exact ⟨i, dk, rfl, by omega, Nat.le_refl _, hsk, HP, Lib.hid rfl⟩
      case round =>
        obtain ⟨j, dj, rfl, haj, hji, hsj, HQ, HI⟩ := hrel
        clear HP
        by_cases hja : a < j
        · have hd : decide ((a : Int) < (j : Int)) = true := decide_eq_true (by omega)
          obtain ⟨jp, rfl⟩ : ∃ jp, j = jp + 1 := ⟨j - 1, by omega⟩
          have hd2 : decide ((a : Int) < (jp : Int) + 1) = true := decide_eq_true (by omega)
          have hwp : IntKind.i64.wrap (jp : Int) = (jp : Int) := IntWalk.i64_in _ (by omega)
          have jz : (jp : Int) + 1 < (d.size : Int) := by omega
          have jz1 : (jp : Int) < (d.size : Int) := by omega
          have p0 : (0 : Int) ≤ (jp : Int) + 1 := by omega
          have p1 : (0 : Int) ≤ (jp : Int) := by omega
          obtain ⟨x, hx⟩ : ∃ x, dj[jp + 1]! = x := ⟨_, rfl⟩
          obtain ⟨y, hy⟩ : ∃ y, dj[jp]! = y := ⟨_, rfl⟩
          have hS0 : (wr.cell? ⟨blk, (jp + 1) * 9, none⟩ = some (.slice x.A x.pt.labels.length x.c) ∧ wr.cell? ⟨blk, (jp + 1) * 9 + 1, none⟩ = some (.int .i64 (x.pt.role : Int)) ∧ wr.cell? ⟨blk, (jp + 1) * 9 + 2, none⟩ = some (.bool x.pt.inf) ∧ wr.cell? ⟨blk, (jp + 1) * 9 + 3, none⟩ = some (.int .i64 x.pt.bM) ∧ wr.cell? ⟨blk, (jp + 1) * 9 + 4, none⟩ = some (.int .i64 (x.pt.bS : Int)) ∧ wr.cell? ⟨blk, (jp + 1) * 9 + 5, none⟩ = some (.int .i64 x.pt.vM) ∧ wr.cell? ⟨blk, (jp + 1) * 9 + 6, none⟩ = some (.int .i64 (x.pt.vS : Int)) ∧ wr.cell? ⟨blk, (jp + 1) * 9 + 7, none⟩ = some (.bool x.pt.timed) ∧ wr.cell? ⟨blk, (jp + 1) * 9 + 8, none⟩ = some (.int .i64 x.pt.time)) ∧ (wr.cell? ⟨blk, jp * 9, none⟩ = some (.slice y.A y.pt.labels.length y.c) ∧ wr.cell? ⟨blk, jp * 9 + 1, none⟩ = some (.int .i64 (y.pt.role : Int)) ∧ wr.cell? ⟨blk, jp * 9 + 2, none⟩ = some (.bool y.pt.inf) ∧ wr.cell? ⟨blk, jp * 9 + 3, none⟩ = some (.int .i64 y.pt.bM) ∧ wr.cell? ⟨blk, jp * 9 + 4, none⟩ = some (.int .i64 (y.pt.bS : Int)) ∧ wr.cell? ⟨blk, jp * 9 + 5, none⟩ = some (.int .i64 y.pt.vM) ∧ wr.cell? ⟨blk, jp * 9 + 6, none⟩ = some (.int .i64 (y.pt.vS : Int)) ∧ wr.cell? ⟨blk, jp * 9 + 7, none⟩ = some (.bool y.pt.timed) ∧ wr.cell? ⟨blk, jp * 9 + 8, none⟩ = some (.int .i64 y.pt.time)) ∧ PR w0 wr B blk cap dj := ⟨by rw [← hx]; exact HQ.out.row (by omega), by rw [← hy]; exact HQ.out.row (by omega), HQ.out⟩
          have hcmp : ∀ W, PR w0 W B blk cap dj → Calls Tryz.prog 47 #[.agg #[.slice x.A x.pt.labels.length x.c, .int .i64 (x.pt.role : Int), .bool x.pt.inf, .int .i64 x.pt.bM, .int .i64 (x.pt.bS : Int), .int .i64 x.pt.vM, .int .i64 (x.pt.vS : Int), .bool x.pt.timed, .int .i64 x.pt.time], .agg #[.slice y.A y.pt.labels.length y.c, .int .i64 (y.pt.role : Int), .bool y.pt.inf, .int .i64 y.pt.bM, .int .i64 (y.pt.bS : Int), .int .i64 y.pt.vM, .int .i64 (y.pt.vS : Int), .bool y.pt.timed, .int .i64 y.pt.time]] W fun e w2 => e = .returned (.int .i64 (pcf x y)) ∧ Aw [] W w2 := fun W hW => cmp_pr (by omega) (by omega) x y hx hy hW
          have hst : ∀ W, PR w0 W B blk cap dj → (W.cell? ⟨blk, (jp + 1) * 9, none⟩ = some (.slice x.A x.pt.labels.length x.c) ∧ W.cell? ⟨blk, (jp + 1) * 9 + 1, none⟩ = some (.int .i64 (x.pt.role : Int)) ∧ W.cell? ⟨blk, (jp + 1) * 9 + 2, none⟩ = some (.bool x.pt.inf) ∧ W.cell? ⟨blk, (jp + 1) * 9 + 3, none⟩ = some (.int .i64 x.pt.bM) ∧ W.cell? ⟨blk, (jp + 1) * 9 + 4, none⟩ = some (.int .i64 (x.pt.bS : Int)) ∧ W.cell? ⟨blk, (jp + 1) * 9 + 5, none⟩ = some (.int .i64 x.pt.vM) ∧ W.cell? ⟨blk, (jp + 1) * 9 + 6, none⟩ = some (.int .i64 (x.pt.vS : Int)) ∧ W.cell? ⟨blk, (jp + 1) * 9 + 7, none⟩ = some (.bool x.pt.timed) ∧ W.cell? ⟨blk, (jp + 1) * 9 + 8, none⟩ = some (.int .i64 x.pt.time)) ∧ (W.cell? ⟨blk, jp * 9, none⟩ = some (.slice y.A y.pt.labels.length y.c) ∧ W.cell? ⟨blk, jp * 9 + 1, none⟩ = some (.int .i64 (y.pt.role : Int)) ∧ W.cell? ⟨blk, jp * 9 + 2, none⟩ = some (.bool y.pt.inf) ∧ W.cell? ⟨blk, jp * 9 + 3, none⟩ = some (.int .i64 y.pt.bM) ∧ W.cell? ⟨blk, jp * 9 + 4, none⟩ = some (.int .i64 (y.pt.bS : Int)) ∧ W.cell? ⟨blk, jp * 9 + 5, none⟩ = some (.int .i64 y.pt.vM) ∧ W.cell? ⟨blk, jp * 9 + 6, none⟩ = some (.int .i64 (y.pt.vS : Int)) ∧ W.cell? ⟨blk, jp * 9 + 7, none⟩ = some (.bool y.pt.timed) ∧ W.cell? ⟨blk, jp * 9 + 8, none⟩ = some (.int .i64 y.pt.time)) ∧ PR w0 W B blk cap dj := fun W hW => ⟨by rw [← hx]; exact hW.row (by omega), by rw [← hy]; exact hW.row (by omega), hW⟩
          have hlt_ : ltOf pcf dj[jp + 1]! dj[jp]! = decide (pcf x y < 0) := by rw [hx, hy]; rfl
          have HLT := Lib.hid hlt_
          have HX := Lib.hid hx
          have HY := Lib.hid hy
          clear hlt_ hx hy
          generalize pcf x y = C at *
          cases hc : decide (C < 0)
          · have hout : insOuter (ltOf pcf) a b (i + 1) dj = insertionSort (ltOf pcf) d a b := by
              rw [← HO.out, insOuter_go _ _ _ _ _ hlt, ← HI.out, insInner_stop _ _ _ _ (Or.inr (by rw [Nat.add_sub_cancel, HLT.out, hc]))]
            have HOUT := Lib.hid hout
            clear hout
            go_upto_region 4 with (fail)
            go_region_held3 (fun w' => (w'.cell? ⟨blk, (jp + 1) * 9, none⟩ = some (.slice x.A x.pt.labels.length x.c) ∧ w'.cell? ⟨blk, (jp + 1) * 9 + 1, none⟩ = some (.int .i64 (x.pt.role : Int)) ∧ w'.cell? ⟨blk, (jp + 1) * 9 + 2, none⟩ = some (.bool x.pt.inf) ∧ w'.cell? ⟨blk, (jp + 1) * 9 + 3, none⟩ = some (.int .i64 x.pt.bM) ∧ w'.cell? ⟨blk, (jp + 1) * 9 + 4, none⟩ = some (.int .i64 (x.pt.bS : Int)) ∧ w'.cell? ⟨blk, (jp + 1) * 9 + 5, none⟩ = some (.int .i64 x.pt.vM) ∧ w'.cell? ⟨blk, (jp + 1) * 9 + 6, none⟩ = some (.int .i64 (x.pt.vS : Int)) ∧ w'.cell? ⟨blk, (jp + 1) * 9 + 7, none⟩ = some (.bool x.pt.timed) ∧ w'.cell? ⟨blk, (jp + 1) * 9 + 8, none⟩ = some (.int .i64 x.pt.time)) ∧ (w'.cell? ⟨blk, jp * 9, none⟩ = some (.slice y.A y.pt.labels.length y.c) ∧ w'.cell? ⟨blk, jp * 9 + 1, none⟩ = some (.int .i64 (y.pt.role : Int)) ∧ w'.cell? ⟨blk, jp * 9 + 2, none⟩ = some (.bool y.pt.inf) ∧ w'.cell? ⟨blk, jp * 9 + 3, none⟩ = some (.int .i64 y.pt.bM) ∧ w'.cell? ⟨blk, jp * 9 + 4, none⟩ = some (.int .i64 (y.pt.bS : Int)) ∧ w'.cell? ⟨blk, jp * 9 + 5, none⟩ = some (.int .i64 y.pt.vM) ∧ w'.cell? ⟨blk, jp * 9 + 6, none⟩ = some (.int .i64 (y.pt.vS : Int)) ∧ w'.cell? ⟨blk, jp * 9 + 7, none⟩ = some (.bool y.pt.timed) ∧ w'.cell? ⟨blk, jp * 9 + 8, none⟩ = some (.int .i64 y.pt.time)) ∧ PR w0 w' B blk cap dj) (first | (with_reducible assumption) | (with_reducible exact hS0) | (exact hst _ HQ.out.drew)) (first
              | (go_at_call 47; (with_reducible refine (hcmp _ (And.right (And.right (by with_reducible assumption)))).mono ?_); rintro en w5 ⟨rfl, hA5⟩; have S5 := hst _ (PR.call (And.right (And.right (by with_reducible assumption))) hA5)))
            rename_i hHeld
            obtain ⟨_, _, hY⟩ := hHeld
            go_wp2_with fail
            exact ⟨⟨i + 1, dj, by simp, by omega, by omega, hsj, Lib.hid hY, HOUT⟩, by (simp only [intOf]; omega)⟩
          · have hin : insInner (ltOf pcf) a jp (swp dj (jp + 1) jp) = insInner (ltOf pcf) a i dk := by
              rw [← HI.out]
              have := insInner_go (ltOf pcf) a (jp + 1) dj hja (by rw [Nat.add_sub_cancel]; exact HLT.out.trans hc)
              rw [Nat.add_sub_cancel] at this
              exact this.symm
            have HIN := Lib.hid hin
            clear hin
            go_upto_region 4 with (fail)
            go_region_held3 (fun w' => (w'.cell? ⟨blk, (jp + 1) * 9, none⟩ = some (.slice x.A x.pt.labels.length x.c) ∧ w'.cell? ⟨blk, (jp + 1) * 9 + 1, none⟩ = some (.int .i64 (x.pt.role : Int)) ∧ w'.cell? ⟨blk, (jp + 1) * 9 + 2, none⟩ = some (.bool x.pt.inf) ∧ w'.cell? ⟨blk, (jp + 1) * 9 + 3, none⟩ = some (.int .i64 x.pt.bM) ∧ w'.cell? ⟨blk, (jp + 1) * 9 + 4, none⟩ = some (.int .i64 (x.pt.bS : Int)) ∧ w'.cell? ⟨blk, (jp + 1) * 9 + 5, none⟩ = some (.int .i64 x.pt.vM) ∧ w'.cell? ⟨blk, (jp + 1) * 9 + 6, none⟩ = some (.int .i64 (x.pt.vS : Int)) ∧ w'.cell? ⟨blk, (jp + 1) * 9 + 7, none⟩ = some (.bool x.pt.timed) ∧ w'.cell? ⟨blk, (jp + 1) * 9 + 8, none⟩ = some (.int .i64 x.pt.time)) ∧ (w'.cell? ⟨blk, jp * 9, none⟩ = some (.slice y.A y.pt.labels.length y.c) ∧ w'.cell? ⟨blk, jp * 9 + 1, none⟩ = some (.int .i64 (y.pt.role : Int)) ∧ w'.cell? ⟨blk, jp * 9 + 2, none⟩ = some (.bool y.pt.inf) ∧ w'.cell? ⟨blk, jp * 9 + 3, none⟩ = some (.int .i64 y.pt.bM) ∧ w'.cell? ⟨blk, jp * 9 + 4, none⟩ = some (.int .i64 (y.pt.bS : Int)) ∧ w'.cell? ⟨blk, jp * 9 + 5, none⟩ = some (.int .i64 y.pt.vM) ∧ w'.cell? ⟨blk, jp * 9 + 6, none⟩ = some (.int .i64 (y.pt.vS : Int)) ∧ w'.cell? ⟨blk, jp * 9 + 7, none⟩ = some (.bool y.pt.timed) ∧ w'.cell? ⟨blk, jp * 9 + 8, none⟩ = some (.int .i64 y.pt.time)) ∧ PR w0 w' B blk cap dj) (first | (with_reducible assumption) | (with_reducible exact hS0) | (exact hst _ HQ.out.drew)) (first
              | (go_at_call 47; (with_reducible refine (hcmp _ (And.right (And.right (by with_reducible assumption)))).mono ?_); rintro en w5 ⟨rfl, hA5⟩; have S5 := hst _ (PR.call (And.right (And.right (by with_reducible assumption))) hA5)))
            rename_i hHeld
            obtain ⟨⟨x0, x1, x2, x3, x4, x5, x6, x7, x8⟩, ⟨y0, y1, y2, y3, y4, y5, y6, y7, y8⟩, hY⟩ := hHeld
            have fx0 := hY.fz ((jp + 1) * 9); have fx1 := hY.fz ((jp + 1) * 9 + 1); have fx2 := hY.fz ((jp + 1) * 9 + 2); have fx3 := hY.fz ((jp + 1) * 9 + 3); have fx4 := hY.fz ((jp + 1) * 9 + 4); have fx5 := hY.fz ((jp + 1) * 9 + 5); have fx6 := hY.fz ((jp + 1) * 9 + 6); have fx7 := hY.fz ((jp + 1) * 9 + 7); have fx8 := hY.fz ((jp + 1) * 9 + 8)
            have fy0 := hY.fz (jp * 9); have fy1 := hY.fz (jp * 9 + 1); have fy2 := hY.fz (jp * 9 + 2); have fy3 := hY.fz (jp * 9 + 3); have fy4 := hY.fz (jp * 9 + 4); have fy5 := hY.fz (jp * 9 + 5); have fy6 := hY.fz (jp * 9 + 6); have fy7 := hY.fz (jp * 9 + 7); have fy8 := hY.fz (jp * 9 + 8)
            go_upto_region 6 with (fail)
            clear hc hS0
            go_region
            have hY2 := hY.swap (i := jp + 1) (j := jp) (by omega) (by omega) x y HX.out HY.out
            have HY2 := Lib.hid hY2.drew
            clear hY2 hY
            go_wp2_with fail
            first
              | exact ⟨⟨jp, swp dj (jp + 1) jp, by simp, by omega, by omega, by rw [size_swp]; exact hsj, HY2, HIN⟩, by (simp only [intOf]; omega)⟩
        · have hd : decide ((a : Int) < (j : Int)) = false := decide_eq_false (by omega)
          have hout : insOuter (ltOf pcf) a b (i + 1) dj = insertionSort (ltOf pcf) d a b := by
            rw [← HO.out, insOuter_go _ _ _ _ _ hlt, ← HI.out, insInner_stop _ _ _ _ (Or.inl (by omega))]
          have HOUT := Lib.hid hout
          clear hout
          go_upto_region 4 with (fail)
          go_region
          go_wp2_with fail
          first
            | exact ⟨⟨i + 1, dj, by simp, by omega, by omega, hsj, Lib.hid HQ.out.drew, HOUT⟩, by (simp only [intOf]; omega)⟩
    · have hltz : decide ((i : Int) < (b : Int)) = false := decide_eq_false (by omega)
      have ho := HO.out
      rw [insOuter, if_neg hlt] at ho
      subst ho
      have HP' := HP.out
      first
        | (go_wp2_with fail; first | exact ⟨rfl, HP'⟩ | (go_end0; exact ⟨rfl, HP'⟩))
end
section
open Go.RowKit Go.Sort Go.Shelf
theorem bang_list {α : Type} [Inhabited α] (l : List α) (i : Nat) : l.toArray[i]! = l.getD i default := by
  rw [getElem!_def]
  simp only [List.getElem?_toArray, List.getD_eq_getElem?_getD]
  cases l[i]? <;> rfl
/-- Places permuted among themselves: what stands around them stays. -/
theorem permIn_cut {P X S : List VPnt} {d' : Array VPnt} (h : PermIn P.length (P.length + X.length) (P ++ (X ++ S)).toArray d') : ∃ X', d' = (P ++ (X' ++ S)).toArray ∧ X'.Perm X := by
  obtain ⟨h1, h2, h3⟩ := h
  have hs : d'.size = P.length + (X.length + S.length) := by rw [h1]; simp
  have ht : d'.toList.length = d'.size := by simp
  refine ⟨(d'.toList.drop P.length).take X.length, ?_, ?_⟩
  · apply Array.ext'
    have hl : ((d'.toList.drop P.length).take X.length).length = X.length := by rw [List.length_take, List.length_drop, ht]; omega
    apply List.ext_getElem?
    intro i
    have hd : ∀ i, i < d'.size → (i < P.length ∨ P.length + X.length ≤ i) → d'.toList[i]? = (P ++ (X ++ S))[i]? := fun i hi hc => by
      have := h2 i hc
      have e0 := bang_list (P ++ (X ++ S)) i
      rw [e0] at this
      rw [Array.getElem?_toList, Array.getElem?_eq_getElem hi]
      rw [getElem!_pos d' i hi] at this
      have hlt : i < (P ++ (X ++ S)).length := by simp; omega
      rw [List.getElem?_eq_getElem hlt, this, List.getD_eq_getElem?_getD, List.getElem?_eq_getElem hlt]; rfl
    by_cases c1 : i < P.length
    · rw [hd i (by omega) (.inl c1), List.getElem?_append_left c1, List.getElem?_append_left c1]
    · by_cases c2 : i < P.length + X.length
      · rw [List.getElem?_append_right (by omega), List.getElem?_append_left (by omega), List.getElem?_take, if_pos (by omega), List.getElem?_drop, show P.length + (i - P.length) = i by omega]
      · by_cases c3 : i < d'.size
        · rw [hd i c3 (.inr (by omega)), List.getElem?_append_right (by omega), List.getElem?_append_right (by omega), List.getElem?_append_right (by omega), List.getElem?_append_right (by omega), hl]
        · rw [List.getElem?_eq_none (by simp; omega), List.getElem?_eq_none (by simp only [List.length_append, hl]; omega)]
  · have e1 : (d'.extract P.length (P.length + X.length)).toList = (d'.toList.drop P.length).take X.length := by
      rw [Array.toList_extract, List.extract_eq_take_drop]
      congr 1
      omega
    have e2 : ((P ++ (X ++ S)).toArray.extract P.length (P.length + X.length)).toList = X := by
      rw [Array.toList_extract, List.extract_eq_take_drop]
      simp
    rw [e1, e2] at h3
    exact h3
theorem sortedIn_cut {lt : VPnt → VPnt → Bool} {P X S : List VPnt} (h : SortedIn lt P.length (P.length + X.length) (P ++ (X ++ S)).toArray) : Rises lt X := by
  unfold Rises
  rw [List.pairwise_iff_getElem]
  intro i j hi hj hij
  have := h (P.length + i) (P.length + j) (by omega) (by omega) (by omega)
  have g : ∀ k (hk : k < X.length), (P ++ (X ++ S)).toArray[P.length + k]! = X[k] := fun k hk => by
    rw [bang_list, List.getD_eq_getElem?_getD, List.getElem?_append_right (by omega), show P.length + k - P.length = k by omega, List.getElem?_append_left hk, List.getElem?_eq_getElem hk]; rfl
  rw [g j hj, g i hi] at this
  exact this
/-- A world of the sort's, by the list. -/
def PRs (w0 W : World) (B blk cap : Nat) (l : List VPnt) : Prop := PR w0 W B blk cap l.toArray
theorem pins_cut (w0 : World) (B blk cap a b n : Nat) (P X S : List VPnt) (w : World) (h : PRs w0 w B blk cap (P ++ (X ++ S))) (ha : a = P.length) (hb : b = a + X.length) (hn : n = P.length + (X.length + S.length)) (hsz : n ≤ 1048576) :
    Calls Tryz.prog 132 #[.slice (some ⟨blk, 0, none⟩) n cap, .int .i64 (a : Int), .int .i64 (b : Int), .func (.func 47) #[] #[]] w fun e w' => e = .returned (.tuple #[]) ∧ ∃ X', X'.Perm X ∧ Rises (ltOf pcf) X' ∧ PRs w0 w' B blk cap (P ++ (X' ++ S)) := by
  have hs : (P ++ (X ++ S)).toArray.size = n := by simp [hn]
  have k := pins_any w0 B blk cap a b _ w h (by omega) (by rw [hs]; omega) (by rw [hs]; exact hsz)
  rw [hs] at k
  refine k.mono fun e w' hh => ⟨hh.1, ?_⟩
  obtain ⟨q1, q2⟩ := insertionSort_holds (lt := ltOf pcf) swoP (P ++ (X ++ S)).toArray a b (by omega) (by rw [hs]; omega)
  subst ha
  subst hb
  obtain ⟨X', e1, e2⟩ := permIn_cut q1
  have h3 := hh.2
  rw [e1] at q2 h3
  refine ⟨X', e2, sortedIn_cut (P := P) (S := S) (X := X') (by rw [e2.length_eq]; exact q2), h3⟩
/-- A slice's stable sort: fewer than twenty. -/
theorem pstable_any (w0 : World) (B blk cap n : Nat) (l : List VPnt) (w : World) (h : PRs w0 w B blk cap l) (hn : n = l.length) (h20 : n < 20) :
    Calls Tryz.prog 85 #[.slice (some ⟨blk, 0, none⟩) n cap, .int .i64 (n : Int), .func (.func 47) #[] #[]] w fun e w' => e = .returned (.tuple #[]) ∧ ∃ l', l'.Perm l ∧ Rises (ltOf pcf) l' ∧ PRs w0 w' B blk cap l' := by
  have kI : Calls Tryz.prog 132 #[.slice (some ⟨blk, 0, none⟩) n cap, .int .i64 0, .int .i64 (n : Int), .func (.func 47) #[] #[]] w fun e w' => e = .returned (.tuple #[]) ∧ ∃ X', X'.Perm l ∧ Rises (ltOf pcf) X' ∧ PRs w0 w' B blk cap X' := by
    have := pins_cut w0 B blk cap 0 n n [] l [] w (by simpa using h) rfl (by omega) (by simp [hn]) (by omega)
    simpa using this
  have d : decide ((20 : Int) ≤ (n : Int)) = false := decide_eq_false (by omega)
  have d2 : decide ((20 : Int) < (n : Int)) = false := decide_eq_false (by omega)
  clear h hn
  go_enter Tryz.func85, Tryz.ntmps85
  go_wp2_with fail
  refine wp_loop_rounds 1 ?_
  repeat (rw [rounds_succ]; go_wp2_with (go_at_call 132; (with_reducible refine kI.mono ?_); rintro e w1 ⟨rfl, hw1⟩))
  refine wp_loop_rounds 1 ?_
  repeat (rw [rounds_succ]; go_wp2_with fail)
  first
    | go_end0
    | refine bodyPost_ret (results_none rfl _ _ _) rfl ?_
  exact ⟨rfl, hw1⟩
theorem psortS_any (w0 : World) (B blk cap n : Nat) (l : List VPnt) (w : World) (h : PRs w0 w B blk cap l) (hn : n = l.length) (h20 : n < 20) :
    Calls Tryz.prog 46 #[.slice (some ⟨blk, 0, none⟩) n cap, .func (.func 47) #[] #[]] w fun e w' => e = .returned (.tuple #[]) ∧ ∃ l', l'.Perm l ∧ Rises (ltOf pcf) l' ∧ PRs w0 w' B blk cap l' := by
  have kP := pstable_any w0 B blk cap n l w h hn h20
  clear h hn
  go_enter Tryz.func46, Tryz.ntmps46
  go_wp2_with (go_at_call 85; (with_reducible refine kP.mono ?_); rintro e w1 ⟨rfl, hw1⟩)
  first
    | go_end0
    | refine bodyPost_ret (results_none rfl _ _ _) rfl ?_
  exact ⟨rfl, hw1⟩
end
end Go.Proofs.YtcapbikelgcmmaaGreatDoor
