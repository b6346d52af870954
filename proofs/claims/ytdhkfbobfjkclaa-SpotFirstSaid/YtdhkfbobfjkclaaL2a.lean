/- The walks of the laws on spots. -/
import Derived.Test.YtdhkfbobfjkclaaSpot2
import Derived.Deep.DeepCutAuto
namespace Go.Proofs.Ytdhkfbobfjkclaa
open Go.RowKit
theorem rows_of_blk {α : Type} {f : α → List Value} {size : Nat} (hf : ∀ x, (f x).length = size) {W : World} {b : Nat} {T : TypeId} {cs : Array Value} (hB : Blk W b T cs) (xs : List α) (h : cs.toList = xs.flatMap f) :
    IsRows f size W W.heap.size (some ⟨b, 0, none⟩) xs.length xs := by
  refine ⟨rfl, fun _ => ⟨_, _, rfl, hB.lt, fun i x j u hx hu => ?_⟩⟩
  rw [hB.cell, Nat.zero_add, ← Array.getElem?_toList, h]
  exact flatMap_at f size hf xs i x j u hx hu
theorem blk_new' {W : World} {T : TypeId} {cs : Array Value} {b : Nat} (h : b = W.heap.size) : Blk (W.alloc (.cells cs T)) b T cs := by subst h; exact Blk.new W T cs
theorem blk_set4 {W : World} {g : Nat} {T : TypeId} {x0 x1 x2 x3 a b c d : Value} (h : Blk W g T #[x0, x1, x2, x3]) :
    Blk ((((W.setCell ⟨g, 0, none⟩ a).setCell ⟨g, 1, none⟩ b).setCell ⟨g, 2, none⟩ c).setCell ⟨g, 3, none⟩ d) g T #[a, b, c, d] := by
  have := (((h.set_ 0 a).set_ 1 b).set_ 2 c).set_ 3 d
  simpa using this
theorem drew_size (W : World) : W.drew.heap.size = W.heap.size := rfl
theorem fltCells_len (x : Flt) : (fltCells x).length = 4 := rfl
set_option maxRecDepth 100000 in
set_option maxHeartbeats 1600000 in
theorem known2_any (w : World) :
    Calls Try.prog 21 #[] w fun e w' => e = .returned (.bool true) ∧ Below w.heap.size w w' := by
  have a1 : spotO ⟨#[97, 10, 98]⟩ 2 = 2 := by decide
  have a2 : spotL ⟨#[97, 10, 98]⟩ 2 = 2 := by decide
  have a3 : spotC ⟨#[97, 10, 98]⟩ 2 = 1 := by decide
  have b1 : spotO ⟨#[]⟩ (-5) = 0 := by decide
  have b2 : spotL ⟨#[]⟩ (-5) = 1 := by decide
  have b3 : spotC ⟨#[]⟩ (-5) = 1 := by decide
  have d1 : fltO 12 ⟨#[120, 121]⟩ 1 = 1 := by decide
  have d2 : fltL 12 ⟨#[120, 121]⟩ 1 = 1 := by decide
  have d3 : fltC 12 ⟨#[120, 121]⟩ 1 = 2 := by decide
  have e1 : fltO 19 ⟨#[120, 121, 122]⟩ 2 = 2 := by decide
  have e2 : fltL 19 ⟨#[120, 121, 122]⟩ 2 = 1 := by decide
  have e3 : fltC 19 ⟨#[120, 121, 122]⟩ 2 = 3 := by decide
  have f1 : fltO 0 ⟨#[120]⟩ 1 = 0 := by decide
  have f2 : fltL 0 ⟨#[120]⟩ 1 = 0 := by decide
  have f3 : fltC 0 ⟨#[120]⟩ 1 = 0 := by decide
  have g1 : goodB 12 1 1 2 ⟨#[120, 121]⟩ = true := by decide
  have g2 : goodB 12 1 1 2 ⟨#[10, 120, 121]⟩ = false := by decide
  have hfi : firstF [⟨0, 0, 0, 0⟩, ⟨19, 2, 1, 3⟩, ⟨12, 1, 1, 2⟩] = ⟨12, 1, 1, 2⟩ := rfl
  have hmade : ∀ (W : World) (b : Nat), Blk W b 36 #[.int .i64 0, .int .i64 0, .int .i64 0, .int .i64 0, .int .i64 19, .int .i64 2, .int .i64 1, .int .i64 3, .int .i64 12, .int .i64 1, .int .i64 1, .int .i64 2] → Calls Try.prog 27 #[.slice (some ⟨b, 0, none⟩) 3 3] W fun e w' => e = .returned (.agg #[.int .i64 12, .int .i64 1, .int .i64 1, .int .i64 2]) ∧ Below W.heap.size W w' := fun W b hB => by
    have h := first_any (some ⟨b, 0, none⟩) 3 3 [⟨0, 0, 0, 0⟩, ⟨19, 2, 1, 3⟩, ⟨12, 1, 1, 2⟩] W (rows_of_blk fltCells_len hB _ rfl) (by decide)
    simp only [hfi, fltArr] at h
    exact h
  have Hm := Lib.hid hmade
  clear hmade hfi
  go_enter Try.func21, Try.ntmps21
  go_wp2_with fail
  refine (of_any _ _ _ (by decide)).mono ?_
  rintro e wA ⟨rfl, hbA⟩
  go_wp2_with fail
  refine (at_any _ _ _ _ (by decide)).mono ?_
  rintro e wB ⟨rfl, hbB⟩
  simp only [d1, d2, d3] at hbB ⊢
  have BA := (Blk.new wA 32 #[.int .i64 2, .int .i64 2, .int .i64 1]).below hbB (by simp)
  have hlA := BA.lt
  have bel0 : Below w.heap.size w wB := bl_trans (bl_alloc hbA _) hbB
  have cA0 := BA.cell 0; have cA1 := BA.cell 1; have cA2 := BA.cell 2
  simp at cA0 cA1 cA2
  clear hbA hbB
  have BF0 := Blk.new wB 36 #[.int .i64 12, .int .i64 1, .int .i64 1, .int .i64 2]
  go_upto_region 3 with fail
  go_cut [3] (fun p3 wx => ∃ bg, p3 = .pointer (some ⟨bg, 0, none⟩) ∧ Blk wx wA.heap.size 32 #[.int .i64 2, .int .i64 2, .int .i64 1] ∧ Blk wx wB.heap.size 36 #[.int .i64 12, .int .i64 1, .int .i64 1, .int .i64 2] ∧ Blk wx bg 36 #[.int .i64 12, .int .i64 1, .int .i64 1, .int .i64 2] ∧ Below w.heap.size w wx)
  case first =>
    go_region_held3 (fun w' => w'.cell? ⟨wB.heap.size, 0, none⟩ = some (.int .i64 12) ∧ w'.cell? ⟨wB.heap.size, 1, none⟩ = some (.int .i64 1) ∧ w'.cell? ⟨wB.heap.size, 2, none⟩ = some (.int .i64 1) ∧ w'.cell? ⟨wB.heap.size, 3, none⟩ = some (.int .i64 2)) (simp [go_sem, *]) (first
      | (go_at_call 24; refine (at_any _ _ _ _ (by decide)).mono ?_; rintro e w2 ⟨rfl, hb2⟩; obtain ⟨hc2, hf2⟩ := bcell hb2; have hsz := hb2.size; simp at hsz; have hz2 : wB.heap.size < w2.heap.size := (by omega); have hz2' : wB.heap.size < w2.heap.size + 1 := (by omega); (try have hz2a : wB.heap.size + 1 < w2.heap.size := (by omega)); (try have hz2c : wB.heap.size + 1 < w2.heap.size + 1 := (by omega)))
      | (go_at_call 27; refine (Hm.out _ _ ?_).mono ?_; (first | exact Blk.new _ _ _ | exact (Blk.new _ _ _).alloc _ | exact blk_new' (by simp)); rintro e w3 ⟨rfl, hb3⟩; obtain ⟨hc3, hf3⟩ := bcell hb3; have hsz3 := hb3.size; simp at hsz3; have hz3 : wB.heap.size < w3.heap.size := (by omega); (try have hz3a : wB.heap.size + 1 < w3.heap.size := (by omega)); (try have hz3b : w2.heap.size < w3.heap.size := (by omega)); (try have hz3c : w2.heap.size + 1 < w3.heap.size := (by omega))))
    all_goals
      go_wp2_with fail
      go_meet
    all_goals refine ⟨_, rfl, ?_, ?_, ?_, ?_⟩
    all_goals first | ((repeat (first | with_reducible assumption | with_reducible exact Blk.new _ _ _ | (with_reducible refine blk_new' ?_; simp; done) | with_reducible refine Blk.drew ?_ | (with_reducible refine Blk.far ?_ ?_ _; rotate_left; focus (first | omega | (simp; done) | (simp; omega))) | with_reducible refine Blk.alloc ?_ _ | (with_reducible refine Blk.below ?_ hb3 ?_; rotate_left; focus (first | omega | (simp; done) | (simp; omega))) | (with_reducible refine Blk.below ?_ hb2 ?_; rotate_left; focus (first | omega | (simp; done) | (simp; omega))))); done) | (with_reducible refine blk_set4 (x0 := .int .i64 0) (x1 := .int .i64 0) (x2 := .int .i64 0) (x3 := .int .i64 0) ?_; (repeat (first | with_reducible assumption | with_reducible exact Blk.new _ _ _ | (with_reducible refine blk_new' ?_; simp; done) | with_reducible refine Blk.drew ?_ | (with_reducible refine Blk.far ?_ ?_ _; rotate_left; focus (first | omega | (simp [drew_size]; done) | (simp [drew_size]; omega))) | with_reducible refine Blk.alloc ?_ _ | (with_reducible refine Blk.below ?_ hb3 ?_; rotate_left; focus (first | omega | (simp; done) | (simp; omega))) | (with_reducible refine Blk.below ?_ hb2 ?_; rotate_left; focus (first | omega | (simp; done) | (simp [drew_size]; omega))))); done) | ((repeat (first | with_reducible exact bel0 | with_reducible refine Below.drew ?_ | with_reducible refine bl_alloc ?_ _ | (with_reducible refine bl_set ?_ ?_ _; rotate_left; (have := bel0.size; first | omega | (simp; omega))) | with_reducible refine bl_trans ?_ hb3 | with_reducible refine bl_trans ?_ hb2)); done) | trace_state
  case rest =>
    obtain ⟨bg, rfl, BA', BF, BG, bel⟩ := hcut
    clear BA BF0 cA0 cA1 cA2 hlA
    have la := BA'.lt; have lf := BF.lt; have lg := BG.lt
    have a0 := BA'.cell 0; have a1 := BA'.cell 1; have a2 := BA'.cell 2
    have p0 := BF.cell 0; have p1 := BF.cell 1; have p2 := BF.cell 2; have p3 := BF.cell 3
    have q0 := BG.cell 0; have q1 := BG.cell 1; have q2 := BG.cell 2; have q3 := BG.cell 3
    simp at a0 a1 a2 p0 p1 p2 p3 q0 q1 q2 q3
    clear BA' BF BG
    go_wp2_with (first
      | (go_at_call 22; refine (of_any _ _ _ (by decide)).mono ?_; rintro e wC ⟨rfl, hbC⟩; obtain ⟨hcC, hfC⟩ := bcell hbC; have laC := Nat.lt_of_lt_of_le la hbC.size; have lfC := Nat.lt_of_lt_of_le lf hbC.size; have lgC := Nat.lt_of_lt_of_le lg hbC.size)
      | (go_at_call 24; refine (at_any _ _ _ _ (by decide)).mono ?_; rintro e wD ⟨rfl, hbD⟩; obtain ⟨hcD, hfD⟩ := bcell hbD; have laD := Nat.lt_of_lt_of_le laC hbD.size; have lfD := Nat.lt_of_lt_of_le lfC hbD.size; have lgD := Nat.lt_of_lt_of_le lgC hbD.size)
      | (go_at_call 26; refine (good_any _ _ _ _ _ _ (by decide)).mono ?_; rintro e wE ⟨rfl, hbE⟩; obtain ⟨hcE, hfE⟩ := bcell hbE; (try have lfE := Nat.lt_of_lt_of_le lfD hbE.size)))
    go_ret
    exact ⟨rfl, by repeat (first | exact bel | assumption | refine bl_trans ?_ (by assumption))⟩
end Go.Proofs.Ytdhkfbobfjkclaa
