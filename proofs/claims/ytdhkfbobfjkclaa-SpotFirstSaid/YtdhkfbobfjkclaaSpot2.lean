/- The walk of First. -/
import Derived.Test.YtdhkfbobfjkclaaSpot
import Derived.Test.YtdhkfbobfjkclaaOpenFault
namespace Go.Proofs.Ytdhkfbobfjkclaa
open Go.RowKit
def zeroF : Flt := ⟨0, 0, 0, 0⟩
def aheadF (first f : Flt) : Bool := f.c != 0 && (first.c == 0 || decide (f.o < first.o))
def firstF (l : List Flt) : Flt := l.foldl (fun a f => if aheadF a f = true then f else a) zeroF
def fltArr (f : Flt) : Array Value := #[.int .i64 f.c, .int .i64 f.o, .int .i64 f.l, .int .i64 f.k]
theorem firstF_snoc (l : List Flt) (f : Flt) : firstF (l ++ [f]) = if aheadF (firstF l) f = true then f else firstF l := by unfold firstF; rw [List.foldl_append]; rfl
theorem firstF_step (l : List Flt) (k : Nat) (x : Flt) (hx : l[k]? = some x) : firstF (l.take (k + 1)) = if aheadF (firstF (l.take k)) x = true then x else firstF (l.take k) := by
  have hk : k < l.length := (List.getElem?_eq_some_iff.1 hx).1
  have he : l[k] = x := (List.getElem?_eq_some_iff.1 hx).2
  rw [List.take_succ_eq_append_getElem hk, he, firstF_snoc]

set_option maxHeartbeats 1600000 in
theorem first_any (A : Option Addr) (n cap : Nat) (l : List Flt) (w : World) (h : IsRows fltCells 4 w w.heap.size A n l) (hn : n ≤ 4611686018427387903) :
    Calls Try.prog 27 #[.slice A n cap] w fun e w' => e = .returned (.agg (fltArr (firstF l))) ∧ Below w.heap.size w w' := by
  have hlen := h.1
  go_enter Try.func27, Try.ntmps27
  go_wp2_with fail
  go_loopw [8] (fun i wr => ∃ k : Nat, k ≤ n ∧ i = .int .i64 k ∧ Blk wr (w.heap.size + 1) 36 (fltArr (firstF (l.take k))) ∧ (∃ a b c d, Blk wr w.heap.size 36 #[a, b, c, d]) ∧ Below w.heap.size w wr) (fun i _ => n - (intOf i).toNat)
  case atStart =>
    refine ⟨0, by omega, rfl, ?_, ⟨_, _, _, _, (Blk.new w _ _).alloc _⟩, bl_alloc (bl_alloc (Below.refl _ _) _) _⟩
    have h := Blk.new (w.alloc (.cells #[.int .i64 0, .int .i64 0, .int .i64 0, .int .i64 0] 36)) 36 #[.int .i64 0, .int .i64 0, .int .i64 0, .int .i64 0]
    simpa [firstF, zeroF, fltArr] using h
  case round =>
    obtain ⟨k, hk, rfl, B1, ⟨a, b, c, d, B0⟩, hb⟩ := hrel
    have f0 := B1.frozen 0; have f1 := B1.frozen 1; have f2 := B1.frozen 2; have f3 := B1.frozen 3
    have g0 := B0.frozen 0; have g1 := B0.frozen 1; have g2 := B0.frozen 2; have g3 := B0.frozen 3
    have c0 := B1.cell 0; have c1 := B1.cell 1; have c2 := B1.cell 2; have c3 := B1.cell 3
    have d0 := B0.cell 0; have d1 := B0.cell 1; have d2 := B0.cell 2; have d3 := B0.cell 3
    simp [fltArr] at c0 c1 c2 c3 d0 d1 d2 d3
    have hz0 := B1.lt
    by_cases hlt : k < n
    · obtain ⟨g, off, rfl, hg, hcell⟩ := h.2 (by omega)
      have hk' : k < l.length := by omega
      obtain ⟨x, hx⟩ : ∃ x, l[k]? = some x := ⟨l[k], List.getElem?_eq_getElem hk'⟩
      have e0 : wr.cell? ⟨g, off + k * 4, none⟩ = some (.int .i64 x.c) := (hb.cell (p := ⟨g, off + k * 4, none⟩) hg).trans (hcell k x 0 _ hx rfl)
      have e1 : wr.cell? ⟨g, off + k * 4 + 1, none⟩ = some (.int .i64 x.o) := (hb.cell (p := ⟨g, off + k * 4 + 1, none⟩) hg).trans (hcell k x 1 _ hx rfl)
      have e2 : wr.cell? ⟨g, off + k * 4 + 2, none⟩ = some (.int .i64 x.l) := (hb.cell (p := ⟨g, off + k * 4 + 2, none⟩) hg).trans (hcell k x 2 _ hx rfl)
      have e3 : wr.cell? ⟨g, off + k * 4 + 3, none⟩ = some (.int .i64 x.k) := (hb.cell (p := ⟨g, off + k * 4 + 3, none⟩) hg).trans (hcell k x 3 _ hx rfl)
      clear hcell
      have hst := firstF_step l k x hx
      generalize hF : firstF (l.take k) = F at B1 c0 c1 c2 c3 hst
      have HF := Lib.hid hF
      clear hF
      have Hst := Lib.hid hst
      clear hst hx
      cases q1 : (x.c == 0)
      · have m1 : (x.c != 0) = true := by rw [bne, q1]; rfl
        cases q2 : (F.c == 0)
        · cases q3 : decide (x.o < F.o)
          · have Hn : Hid (firstF (l.take (k + 1)) = F) := by show _ = _; rw [Hst.out]; simp only [aheadF, m1, q2, q3]; rfl
            go_wp2_with (go_at_call 28; refine (before_any _ _ _ _ _ _ _).mono ?_; rintro e w1 ⟨rfl, hbb⟩)
            go_roundw
            case rel =>
              refine ⟨k + 1, by omega, by go_num, ?_, ⟨_, _, _, _, (B0.alloc _).below hbb (by simp; omega)⟩, by repeat (first | exact hb | refine bl_set ?_ (by simp <;> omega) _ | refine bl_alloc ?_ _ | refine bl_trans ?_ (by assumption))⟩
              rw [Hn.out]
              exact (B1.alloc _).below hbb (by simp; omega)
            case measure => simp [intOf]; omega
          · have Hn : Hid (firstF (l.take (k + 1)) = x) := by show _ = _; rw [Hst.out]; simp only [aheadF, m1, q2, q3]; rfl
            go_wp2_with (go_at_call 28; refine (before_any _ _ _ _ _ _ _).mono ?_; rintro e w1 ⟨rfl, hbb⟩; have BX := (Blk.new wr _ _).below hbb (by simp); have BF := (B1.alloc _).below hbb (by simp; omega); have x0 := BX.cell 0; have x1 := BX.cell 1; have x2 := BX.cell 2; have x3 := BX.cell 3; have y0 := BF.cell 0; have y1 := BF.cell 1; have y2 := BF.cell 2; have y3 := BF.cell 3; simp [fltArr] at x0 x1 x2 x3 y0 y1 y2 y3; have z0 := BF.frozen 0; have z1 := BF.frozen 1; have z2 := BF.frozen 2; have z3 := BF.frozen 3)
            go_roundw
            case rel =>
              have BF := (B1.alloc (.cells (fltArr x) 36)).below hbb (by simp; omega)
              have BZ := (B0.alloc (.cells (fltArr x) 36)).below hbb (by simp; omega)
              refine ⟨k + 1, by omega, by go_num, ?_, ⟨_, _, _, _, (((BZ.far (by simp) _).far (by simp) _).far (by simp) _).far (by simp) _⟩, by repeat (first | exact hb | refine bl_set ?_ (by simp <;> omega) _ | refine bl_alloc ?_ _ | refine bl_trans ?_ (by assumption))⟩
              rw [Hn.out]
              have := (((BF.set_ 0 (.int .i64 x.c)).set_ 1 (.int .i64 x.o)).set_ 2 (.int .i64 x.l)).set_ 3 (.int .i64 x.k)
              simpa [fltArr] using this
            case measure => simp [intOf]; omega
        · have Hn : Hid (firstF (l.take (k + 1)) = x) := by show _ = _; rw [Hst.out]; simp only [aheadF, m1, q2]; rfl
          go_wp2_with fail
          go_roundw
          case rel =>
            refine ⟨k + 1, by omega, by go_num, ?_, ⟨_, _, _, _, ((((B0.far (by simp) _).far (by simp) _).far (by simp) _).far (by simp) _).alloc _⟩, by repeat (first | exact hb | refine bl_set ?_ (by simp <;> omega) _ | refine bl_alloc ?_ _ | refine bl_trans ?_ (by assumption))⟩
            rw [Hn.out]
            have := ((((B1.set_ 0 (.int .i64 x.c)).set_ 1 (.int .i64 x.o)).set_ 2 (.int .i64 x.l)).set_ 3 (.int .i64 x.k)).alloc (.cells (fltArr x) 36)
            simpa [fltArr] using this
          case measure => simp [intOf]; omega
      · have m1 : (x.c != 0) = false := by rw [bne, q1]; rfl
        have Hn : Hid (firstF (l.take (k + 1)) = F) := by show _ = _; rw [Hst.out]; simp only [aheadF, m1]; rfl
        go_wp2_with fail
        go_roundw
        case rel =>
          refine ⟨k + 1, by omega, by go_num, ?_, ⟨_, _, _, _, B0.alloc _⟩, by repeat (first | exact hb | refine bl_set ?_ (by simp <;> omega) _ | refine bl_alloc ?_ _ | refine bl_trans ?_ (by assumption))⟩
          rw [Hn.out]
          exact B1.alloc _
        case measure => simp [intOf]; omega
    · obtain rfl : k = n := by omega
      rw [List.take_of_length_le (by omega)] at B1 c0 c1 c2 c3
      go_wp2_with fail
      refine bodyPost_ret (v := .agg (fltArr (firstF l))) ?_ rfl ⟨rfl, ?_⟩
      · have B2 := (((B0.set_ 0 (.int .i64 (firstF l).c)).set_ 1 (.int .i64 (firstF l).o)).set_ 2 (.int .i64 (firstF l).l)).set_ 3 (.int .i64 (firstF l).k)
        have q0 := B2.cell 0; have q1 := B2.cell 1; have q2 := B2.cell 2; have q3 := B2.cell 3
        simp at q0 q1 q2 q3
        simp [results, Try.results27, go_sem, fltArr, q0, q1, q2, q3]
      · exact bl_set (bl_set (bl_set (bl_set hb (by simp) _) (by simp) _) (by simp) _) (by simp) _
end Go.Proofs.Ytdhkfbobfjkclaa
