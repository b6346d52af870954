/- The walk of SpotTells. -/
import Derived.Test.YtdhkfbobfjkclaaL2a
import Derived.Deep.QuietTactic
import Derived.BigQuiet
namespace Go.Proofs.Ytdhkfbobfjkclaa
open Go.RowKit
theorem IsRows.drew' {α : Type} {f : α → List Value} {size : Nat} {w : World} {B : Nat} {A : Option Addr} {n : Nat} {xs : List α} (h : IsRows f size w B A n xs) : IsRows f size w.drew B A n xs := h
theorem first_lit (A : Option Addr) (n cap : Nat) (l : List Flt) (w : World) (h : IsRows fltCells 4 w w.heap.size A n l) (hn : n ≤ 4611686018427387903) :
    Calls Try.prog 27 #[.slice A n cap] w fun e w' => e = .returned (.agg #[.int .i64 (firstF l).c, .int .i64 (firstF l).o, .int .i64 (firstF l).l, .int .i64 (firstF l).k]) ∧ Below w.heap.size w w' := first_any A n cap l w h hn
set_option maxRecDepth 100000 in
set_option maxHeartbeats 3200000 in
theorem tells2_any (s : ByteArray) (off code : Int) (A : Option Addr) (n cap : Nat) (l : List Flt) (w : World) (hl : IsFaults w A n cap l) (hs : s.size ≤ 9223372036854775807) :
    Calls Try.prog 6 #[.string s, .int .i64 off, .int .i64 code, .slice A n cap] w fun e w' => e = .returned (.bool true) ∧ Below w.heap.size w w' := by
  by_cases h300 : 300 < s.size
  · go_enter Try.func6, Try.ntmps6
    go_wp2_with (go_at_call 21; refine (known2_any _).mono ?_; rintro e w1 ⟨rfl, hb1⟩)
    go_ret
    exact ⟨rfl, by repeat (first | exact Below.refl _ _ | assumption | refine bl_trans ?_ (by assumption))⟩
  have hd300 : decide ((300 : Int) < s.size) = false := decide_eq_false (by omega)
  by_cases h20 : 20 < n
  · have hd20 : decide ((20 : Int) < n) = true := decide_eq_true (by omega)
    go_enter Try.func6, Try.ntmps6
    go_wp2_with (go_at_call 21; refine (known2_any _).mono ?_; rintro e w1 ⟨rfl, hb1⟩)
    go_ret
    exact ⟨rfl, by repeat (first | exact Below.refl _ _ | assumption | refine bl_trans ?_ (by assumption))⟩
  have hd20 : decide ((20 : Int) < n) = false := decide_eq_false (by omega)
  have hss : s.size ≤ 4611686018427387903 := by omega
  go_enter Try.func6, Try.ntmps6
  go_wp2_with (go_at_call 21; refine (known2_any _).mono ?_; rintro e w1 ⟨rfl, hb1⟩)
  have nf := neqFault
  have ns := neqSpot
  refine wp_loop_rounds 5 ?_; rw [rounds_succ]
  iterate 5 (
    go_wp2_with (first
      | (go_at_call 22; refine (of_any _ _ _ hss).mono ?_; rintro e wA ⟨rfl, hbA⟩; obtain ⟨hcA, hfA⟩ := bcell hbA; have hzA : w1.heap.size < wA.heap.size := (by (have := hbA.size; first | omega | (simp at this; omega))))
      | (go_at_call 23; refine (refSpot_any _ _ _ hss).mono ?_; rintro e wB ⟨rfl, hbB⟩; obtain ⟨hcB, hfB⟩ := bcell hbB; have hzB : w1.heap.size < wB.heap.size := (by (have := hbB.size; first | omega | (simp at this; omega))))
      | (go_at_call 24; refine (at_any _ _ _ _ hss).mono ?_; rintro e wC ⟨rfl, hbC⟩; obtain ⟨hcC, hfC⟩ := bcell hbC; have hzC : w1.heap.size < wC.heap.size := (by (have := hbC.size; first | omega | (simp at this; omega))))
      | (go_at_call 25; refine (refFault_any _ _ _ _ hss).mono ?_; rintro e wD ⟨rfl, hbD⟩; obtain ⟨hcD, hfD⟩ := bcell hbD; have hzD : w1.heap.size < wD.heap.size := (by (have := hbD.size; first | omega | (simp at this; omega)))))
    try rw [rounds_succ])
  have bel : Below w.heap.size w wD := by repeat (first | exact hb1 | assumption | with_reducible refine bl_alloc ?_ _ | refine bl_trans ?_ (by assumption))
  obtain ⟨wq, hwq⟩ : ∃ wq : World, wq = wD := ⟨_, rfl⟩
  rw [← hwq] at bel ⊢
  clear hwq
  obtain ⟨hlr, hlc, hcm⟩ := hl
  have hlen := hlr.1
  go_loopw [12] (fun i wr => ∃ k : Nat, k ≤ n ∧ i = .int .i64 k ∧ Blk wr wq.heap.size 36 (fltArr (firstF (l.take k))) ∧ Below w.heap.size w wr) (fun i _ => n - (intOf i).toNat)
  case atStart =>
    refine ⟨0, by omega, rfl, ?_, bl_alloc bel _⟩
    have h := Blk.new wq 36 #[.int .i64 0, .int .i64 0, .int .i64 0, .int .i64 0]
    simpa [firstF, zeroF, fltArr] using h
  case round =>
    obtain ⟨k, hk, rfl, B1, hb⟩ := hrel
    have hbq := bel.size
    by_cases hlt : k < n
    · have hdk : decide ((k : Int) < n) = true := decide_eq_true (by omega)
      obtain ⟨g, off', rfl, hg, hcell⟩ := hlr.2 (by omega)
      have hk' : k < l.length := by omega
      obtain ⟨x, hx⟩ : ∃ x, l[k]? = some x := ⟨l[k], List.getElem?_eq_getElem hk'⟩
      have e0 : wr.cell? ⟨g, off' + k * 4, none⟩ = some (.int .i64 x.c) := (hb.cell (p := ⟨g, off' + k * 4, none⟩) hg).trans (hcell k x 0 _ hx rfl)
      have e1 : wr.cell? ⟨g, off' + k * 4 + 1, none⟩ = some (.int .i64 x.o) := (hb.cell (p := ⟨g, off' + k * 4 + 1, none⟩) hg).trans (hcell k x 1 _ hx rfl)
      have e2 : wr.cell? ⟨g, off' + k * 4 + 2, none⟩ = some (.int .i64 x.l) := (hb.cell (p := ⟨g, off' + k * 4 + 2, none⟩) hg).trans (hcell k x 2 _ hx rfl)
      have e3 : wr.cell? ⟨g, off' + k * 4 + 3, none⟩ = some (.int .i64 x.k) := (hb.cell (p := ⟨g, off' + k * 4 + 3, none⟩) hg).trans (hcell k x 3 _ hx rfl)
      clear hcell
      have f0 := B1.frozen 0; have f1 := B1.frozen 1; have f2 := B1.frozen 2; have f3 := B1.frozen 3
      have c0 := B1.cell 0; have c1 := B1.cell 1; have c2 := B1.cell 2; have c3 := B1.cell 3
      simp [fltArr] at c0 c1 c2 c3
      have hst := firstF_step l k x hx
      generalize hF : firstF (l.take k) = F at B1 c0 c1 c2 c3 hst
      have HF := Lib.hid hF
      clear hF
      have Hst := Lib.hid hst
      clear hst hx
      go_upto_region 15 with fail
      go_cut [82] (fun p wx => ∃ wz : World, wz = wx ∧ p = .bool (aheadF F x) ∧ Blk wx wq.heap.size 36 (fltArr F) ∧ (wx.cell? ⟨g, off' + k * 4, none⟩ = some (.int .i64 x.c) ∧ wx.cell? ⟨g, off' + k * 4 + 1, none⟩ = some (.int .i64 x.o) ∧ wx.cell? ⟨g, off' + k * 4 + 2, none⟩ = some (.int .i64 x.l) ∧ wx.cell? ⟨g, off' + k * 4 + 3, none⟩ = some (.int .i64 x.k)) ∧ Below w.heap.size w wx)
      case first =>
        cases q1 : (x.c == 0)
        · have m1 : (x.c != 0) = true := by rw [bne, q1]; rfl
          cases q2 : (F.c == 0)
          · go_quiet (fail)
            go_wp2_with fail
            go_meet
            exact ⟨_, rfl, congrArg Value.bool (by simp [aheadF, m1, q2]), B1.drewN _, ⟨by simpa using e0, by simpa using e1, by simpa using e2, by simpa using e3⟩, bl_drewN hb _⟩
          · go_quiet (fail)
            go_wp2_with fail
            go_meet
            exact ⟨_, rfl, congrArg Value.bool (by simp [aheadF, m1, q2]), B1.drewN _, ⟨by simpa using e0, by simpa using e1, by simpa using e2, by simpa using e3⟩, bl_drewN hb _⟩
        · have m1 : (x.c != 0) = false := by rw [bne, q1]; rfl
          go_quiet (fail)
          go_wp2_with fail
          go_meet
          exact ⟨_, rfl, congrArg Value.bool (by simp [aheadF, m1]), B1.drewN _, ⟨by simpa using e0, by simpa using e1, by simpa using e2, by simpa using e3⟩, bl_drewN hb _⟩
      case rest =>
        obtain ⟨wz, rfl, rfl, B1, ⟨e0, e1, e2, e3⟩, hb⟩ := hcut
        have gz := hb.size
        have hgl : g < wz.heap.size := by omega
        have hgq := B1.lt
        have f0 := B1.frozen 0; have f1 := B1.frozen 1; have f2 := B1.frozen 2; have f3 := B1.frozen 3
        have c0 := B1.cell 0; have c1 := B1.cell 1; have c2 := B1.cell 2; have c3 := B1.cell 3
        simp [fltArr] at c0 c1 c2 c3
        have gd : ∀ w, goodB x.c x.o x.l x.k w = (x.o == fltO x.c w x.o && (x.l == fltL x.c w x.o && x.k == fltC x.c w x.o)) := fun w => rfl
        have ef := eqFault
        cases ha : aheadF F x
        · have Hn : Hid (firstF (l.take (k + 1)) = F) := by show _ = _; rw [Hst.out, ha]; rfl
          go_upto_region 17 with fail
          go_region_held3 (fun w' => w'.cell? ⟨g, off' + k * 4, none⟩ = some (.int .i64 x.c) ∧ w'.cell? ⟨g, off' + k * 4 + 1, none⟩ = some (.int .i64 x.o) ∧ w'.cell? ⟨g, off' + k * 4 + 2, none⟩ = some (.int .i64 x.l) ∧ w'.cell? ⟨g, off' + k * 4 + 3, none⟩ = some (.int .i64 x.k)) (simp [go_sem, *]) (first
            | (go_at_call 26; refine (good_any _ _ _ _ _ _ hss).mono ?_; rintro e wA ⟨rfl, hbA⟩; obtain ⟨hcA, hfA⟩ := bcell hbA; have hzA := hbA.size; (try simp only [drew_size] at hcA hfA hzA); (try simp at hzA); have hzA' : g < wA.heap.size := (by omega))
            | (go_at_call 25; refine (refFault_any _ _ _ _ hss).mono ?_; rintro e wB ⟨rfl, hbB⟩; obtain ⟨hcB, hfB⟩ := bcell hbB; have hzB := hbB.size; (try simp only [drew_size] at hcB hfB hzB); (try simp at hzB); have hzB' : g < wB.heap.size := (by omega)))
          go_wp2_with fail
          go_roundw
          case rel =>
            refine ⟨k + 1, by omega, by go_num, ?_, ?_⟩
            · rw [Hn.out]
              repeat (first | exact B1 | with_reducible refine Blk.drew ?_ | (with_reducible refine Blk.below ?_ hbB ?_; rotate_left; focus (first | omega | (simp [drew_size]; done) | (simp [drew_size]; omega))) | (with_reducible refine Blk.below ?_ hbA ?_; rotate_left; focus (first | omega | (simp; done) | (simp; omega))))
            · repeat (first | exact hb | with_reducible refine Below.drew ?_ | with_reducible refine bl_trans ?_ hbB | with_reducible refine bl_trans ?_ hbA)
          case measure => simp [intOf]; omega
        · have Hn : Hid (firstF (l.take (k + 1)) = x) := by show _ = _; rw [Hst.out, ha]; rfl
          have B2 := blk_set4 (a := .int .i64 x.c) (b := .int .i64 x.o) (c := .int .i64 x.l) (d := .int .i64 x.k) B1
          have hb2 := bl_set (bl_set (bl_set (bl_set hb (p := ⟨wq.heap.size, 0, none⟩) hbq (.int .i64 x.c)) (p := ⟨wq.heap.size, 1, none⟩) hbq (.int .i64 x.o)) (p := ⟨wq.heap.size, 2, none⟩) hbq (.int .i64 x.l)) (p := ⟨wq.heap.size, 3, none⟩) hbq (.int .i64 x.k)
          have hgne : g ≠ wq.heap.size := by omega
          go_upto_region 17 with fail
          go_region_held3 (fun w' => w'.cell? ⟨g, off' + k * 4, none⟩ = some (.int .i64 x.c) ∧ w'.cell? ⟨g, off' + k * 4 + 1, none⟩ = some (.int .i64 x.o) ∧ w'.cell? ⟨g, off' + k * 4 + 2, none⟩ = some (.int .i64 x.l) ∧ w'.cell? ⟨g, off' + k * 4 + 3, none⟩ = some (.int .i64 x.k)) (simp [go_sem, *]) (first
            | (go_at_call 26; refine (good_any _ _ _ _ _ _ hss).mono ?_; rintro e wA ⟨rfl, hbA⟩; obtain ⟨hcA, hfA⟩ := bcell hbA; have hzA := hbA.size; (try simp only [drew_size] at hcA hfA hzA); (try simp at hzA); have hzA' : g < wA.heap.size := (by omega))
            | (go_at_call 25; refine (refFault_any _ _ _ _ hss).mono ?_; rintro e wB ⟨rfl, hbB⟩; obtain ⟨hcB, hfB⟩ := bcell hbB; have hzB := hbB.size; (try simp only [drew_size] at hcB hfB hzB); (try simp at hzB); have hzB' : g < wB.heap.size := (by omega)))
          go_wp2_with fail
          go_roundw
          case rel =>
            refine ⟨k + 1, by omega, by go_num, ?_, ?_⟩
            · rw [Hn.out]
              repeat (first | exact B2 | with_reducible refine Blk.drew ?_ | (with_reducible refine Blk.below ?_ hbB ?_; rotate_left; focus (first | omega | (simp [drew_size]; done) | (simp [drew_size]; omega))) | (with_reducible refine Blk.below ?_ hbA ?_; rotate_left; focus (first | omega | (simp; done) | (simp; omega))))
            · repeat (first | exact hb2 | with_reducible refine Below.drew ?_ | with_reducible refine bl_trans ?_ hbB | with_reducible refine bl_trans ?_ hbA)
          case measure => simp [intOf]; omega
    · obtain rfl : k = n := by omega
      have hdk : decide ((k : Int) < k) = false := decide_eq_false (by omega)
      rw [List.take_of_length_le (by omega)] at B1
      have c0 := B1.cell 0; have c1 := B1.cell 1; have c2 := B1.cell 2; have c3 := B1.cell 3
      simp [fltArr] at c0 c1 c2 c3
      have hrow := (hlr.below (hb.mono (Nat.le_refl _))).more hb.size
      go_upto_region 19 with fail
      have ef := eqFault
      go_region_held3 (fun w' => w'.cell? ⟨wq.heap.size, 0, none⟩ = some (.int .i64 (firstF l).c) ∧ w'.cell? ⟨wq.heap.size, 1, none⟩ = some (.int .i64 (firstF l).o) ∧ w'.cell? ⟨wq.heap.size, 2, none⟩ = some (.int .i64 (firstF l).l) ∧ w'.cell? ⟨wq.heap.size, 3, none⟩ = some (.int .i64 (firstF l).k)) (simp [go_sem, *]) (first
        | (go_at_call 27; refine (first_lit _ _ _ l _ ?_ (by omega)).mono ?_; (first | exact hrow | exact hrow.drew'); rintro e wA ⟨rfl, hbA⟩; obtain ⟨hcA, hfA⟩ := bcell hbA; (try simp only [drew_size] at hcA hfA); have hqA := B1.lt))
      go_wp2_with fail
      go_ret
      exact ⟨ret_bool (by simp), by repeat (first | exact hb | with_reducible refine Below.drew ?_ | with_reducible refine bl_trans ?_ hbA)⟩
end Go.Proofs.Ytdhkfbobfjkclaa
