/- slices' swapRange and rotate at points. slices' rotate at points. slices' symMerge at points: the left row holds one point. slices' symMerge at points: the right row holds one point. slices' symMerge at points, whatever the rows (wip/gen/stbg.py prints it). slices' stable sort at points, of whatever length. slices.SortStableFunc at points, of any number. family.rises where points rise; family.Sort where no two are alike (wip/gen/stbt.py prints it). family.Sort where no two points are alike. -/
import Derived.Test.YtcapbikelgcmmaaGreatDoorMgSa9
import Derived.Test.YtcapbikelgcmmaaGreatDoorMgPl9
import Derived.Deep.CutRange
import Derived.Deep.CutBlock
import Derived.Deep.RegionHeld3
namespace Go.Proofs.YtcapbikelgcmmaaGreatDoor
set_option linter.unusedVariables false
set_option linter.unusedSimpArgs false
open Go.RowKit
section
open Go.RowKit Go.Sort Go.Shelf
/-- k pairs changed, from the front. -/
def swpR (d : Array VPnt) (a b : Nat) : Nat → Array VPnt
  | 0 => d
  | k + 1 => swp (swpR d a b k) (a + k) (b + k)
theorem size_swpR (d : Array VPnt) (a b : Nat) : ∀ k, (swpR d a b k).size = d.size
  | 0 => rfl
  | k + 1 => by rw [swpR, size_swp, size_swpR d a b k]
set_option maxRecDepth 100000 in
set_option maxHeartbeats 12800000 in
theorem pswap_any (w0 : World) (B blk cap a b n : Nat) (d : Array VPnt) (w : World) (fv : Value) (h : PR w0 w B blk cap d) (ha : a + n ≤ d.size) (hb : b + n ≤ d.size) (hab : a ≠ b) (hsz : d.size ≤ 1048576) :
    Calls Tryz.prog 221 #[.slice (some ⟨blk, 0, none⟩) d.size cap, .int .i64 (a : Int), .int .i64 (b : Int), .int .i64 (n : Int), fv] w fun e w' => e = .returned (.tuple #[]) ∧ PR w0 w' B blk cap (swpR d a b n) := by
  have H := Lib.hid h
  clear h
  go_enter Tryz.func221, Tryz.ntmps221
  go_wp2_with fail

  go_loopw [10] (fun vi wr => ∃ i : Nat, vi = .int .i64 (i : Int) ∧ i ≤ n ∧ Hid (PR w0 wr B blk cap (swpR d a b i))) (fun vi _ => n - (intOf vi).toNat)
  case atStart => exact ⟨0, by simp, by omega, H⟩
  case round =>
    obtain ⟨i, rfl, hin, HP⟩ := hrel
    clear H
    by_cases hlt : i < n
    · have hltz : decide ((i : Int) < (n : Int)) = true := decide_eq_true (by omega)
      have hs : (swpR d a b i).size = d.size := size_swpR d a b i
      obtain ⟨x, hx⟩ : ∃ x, (swpR d a b i)[a + i]! = x := ⟨_, rfl⟩
      obtain ⟨y, hy⟩ : ∃ y, (swpR d a b i)[b + i]! = y := ⟨_, rfl⟩
      obtain ⟨x0, x1, x2, x3, x4, x5, x6, x7, x8⟩ : wr.cell? ⟨blk, (a + i) * 9, none⟩ = some (.slice x.A x.pt.labels.length x.c) ∧ wr.cell? ⟨blk, (a + i) * 9 + 1, none⟩ = some (.int .i64 (x.pt.role : Int)) ∧ wr.cell? ⟨blk, (a + i) * 9 + 2, none⟩ = some (.bool x.pt.inf) ∧ wr.cell? ⟨blk, (a + i) * 9 + 3, none⟩ = some (.int .i64 x.pt.bM) ∧ wr.cell? ⟨blk, (a + i) * 9 + 4, none⟩ = some (.int .i64 (x.pt.bS : Int)) ∧ wr.cell? ⟨blk, (a + i) * 9 + 5, none⟩ = some (.int .i64 x.pt.vM) ∧ wr.cell? ⟨blk, (a + i) * 9 + 6, none⟩ = some (.int .i64 (x.pt.vS : Int)) ∧ wr.cell? ⟨blk, (a + i) * 9 + 7, none⟩ = some (.bool x.pt.timed) ∧ wr.cell? ⟨blk, (a + i) * 9 + 8, none⟩ = some (.int .i64 x.pt.time) := by rw [← hx]; exact HP.out.row (by omega)
      obtain ⟨y0, y1, y2, y3, y4, y5, y6, y7, y8⟩ : wr.cell? ⟨blk, (b + i) * 9, none⟩ = some (.slice y.A y.pt.labels.length y.c) ∧ wr.cell? ⟨blk, (b + i) * 9 + 1, none⟩ = some (.int .i64 (y.pt.role : Int)) ∧ wr.cell? ⟨blk, (b + i) * 9 + 2, none⟩ = some (.bool y.pt.inf) ∧ wr.cell? ⟨blk, (b + i) * 9 + 3, none⟩ = some (.int .i64 y.pt.bM) ∧ wr.cell? ⟨blk, (b + i) * 9 + 4, none⟩ = some (.int .i64 (y.pt.bS : Int)) ∧ wr.cell? ⟨blk, (b + i) * 9 + 5, none⟩ = some (.int .i64 y.pt.vM) ∧ wr.cell? ⟨blk, (b + i) * 9 + 6, none⟩ = some (.int .i64 (y.pt.vS : Int)) ∧ wr.cell? ⟨blk, (b + i) * 9 + 7, none⟩ = some (.bool y.pt.timed) ∧ wr.cell? ⟨blk, (b + i) * 9 + 8, none⟩ = some (.int .i64 y.pt.time) := by rw [← hy]; exact HP.out.row (by omega)
      have fx0 := HP.out.fz ((a + i) * 9); have fx1 := HP.out.fz ((a + i) * 9 + 1); have fx2 := HP.out.fz ((a + i) * 9 + 2); have fx3 := HP.out.fz ((a + i) * 9 + 3); have fx4 := HP.out.fz ((a + i) * 9 + 4); have fx5 := HP.out.fz ((a + i) * 9 + 5); have fx6 := HP.out.fz ((a + i) * 9 + 6); have fx7 := HP.out.fz ((a + i) * 9 + 7); have fx8 := HP.out.fz ((a + i) * 9 + 8)
      have fy0 := HP.out.fz ((b + i) * 9); have fy1 := HP.out.fz ((b + i) * 9 + 1); have fy2 := HP.out.fz ((b + i) * 9 + 2); have fy3 := HP.out.fz ((b + i) * 9 + 3); have fy4 := HP.out.fz ((b + i) * 9 + 4); have fy5 := HP.out.fz ((b + i) * 9 + 5); have fy6 := HP.out.fz ((b + i) * 9 + 6); have fy7 := HP.out.fz ((b + i) * 9 + 7); have fy8 := HP.out.fz ((b + i) * 9 + 8)
      have wa : IntKind.i64.wrap ((a : Int) + (i : Int)) = (a : Int) + (i : Int) := IntWalk.i64_in _ (by omega)
      have wb : IntKind.i64.wrap ((b : Int) + (i : Int)) = (b : Int) + (i : Int) := IntWalk.i64_in _ (by omega)
      have ja : (a : Int) + (i : Int) < (d.size : Int) := by omega
      have jb : (b : Int) + (i : Int) < (d.size : Int) := by omega
      have pa : (0 : Int) ≤ (a : Int) + (i : Int) := by omega
      have pb : (0 : Int) ≤ (b : Int) + (i : Int) := by omega
      have ta : ((a : Int) + (i : Int)).toNat = a + i := by omega
      have tb : ((b : Int) + (i : Int)).toNat = b + i := by omega
      go_upto_region 3 with (fail)
      go_region
      have hY2 := HP.out.swap (i := a + i) (j := b + i) (by omega) (by omega) x y hx hy
      have HY2 := Lib.hid hY2.drew
      clear hY2 HP
      first
        | (go_wp2_with fail
           exact ⟨⟨i + 1, by simp, by omega, HY2⟩, by (simp only [intOf]; omega)⟩)
    · have hltz : decide ((i : Int) < (n : Int)) = false := decide_eq_false (by omega)
      have e : i = n := by omega
      subst e
      have HP' := HP.out
      go_wp2_with fail
      first | exact ⟨rfl, HP'⟩ | (go_end0; exact ⟨rfl, HP'⟩)
end
section
open Go.RowKit Go.Sort Go.Shelf
theorem swp_cut (A B C : List VPnt) (x y : VPnt) (i j : Nat) (hi : i = A.length) (hj : j = A.length + 1 + B.length) : swp (A ++ x :: (B ++ y :: C)).toArray i j = (A ++ y :: (B ++ x :: C)).toArray := by
  subst hi; subst hj
  have e1 : (A ++ x :: (B ++ y :: C)).toArray[A.length]! = x := by
    rw [getElem!_pos _ _ (by simp)]; simp
  have e2 : (A ++ x :: (B ++ y :: C)).toArray[A.length + 1 + B.length]! = y := by
    rw [getElem!_pos _ _ (by simp; omega)]
    simp only [List.getElem_toArray]
    rw [List.getElem_append_right (by omega)]
    have : A.length + 1 + B.length - A.length = B.length + 1 := by omega
    simp only [this, List.getElem_cons_succ]
    simp
  apply Array.ext'
  unfold swp
  rw [e1, e2]
  simp only [List.setIfInBounds_toArray]
  rw [List.set_append_right _ _ (Nat.le_refl _), Nat.sub_self, List.set_cons_zero, List.set_append_right _ _ (by omega)]
  have : A.length + 1 + B.length - A.length = B.length + 1 := by omega
  rw [this, List.set_cons_succ, List.set_append_right _ _ (Nat.le_refl _), Nat.sub_self, List.set_cons_zero]
theorem swpR_cut : ∀ (k : Nat) (U V P M S : List VPnt) (b : Nat), U.length = k → V.length = k → b = P.length + k + M.length → swpR (P ++ (U ++ (M ++ (V ++ S)))).toArray P.length b k = (P ++ (V ++ (M ++ (U ++ S)))).toArray
  | 0, U, V, P, M, S, b, hu, hv, hb => by
    rw [List.length_eq_zero_iff] at hu hv
    subst hu; subst hv
    rfl
  | k + 1, U, V, P, M, S, b, hu, hv, hb => by
    have hu0 : U ≠ [] := fun e => by rw [e] at hu; simp at hu
    have hv0 : V ≠ [] := fun e => by rw [e] at hv; simp at hv
    obtain ⟨U', u, rfl⟩ : ∃ U' u, U = U' ++ [u] := ⟨U.dropLast, U.getLast hu0, (List.dropLast_concat_getLast hu0).symm⟩
    obtain ⟨V', v, rfl⟩ : ∃ V' v, V = V' ++ [v] := ⟨V.dropLast, V.getLast hv0, (List.dropLast_concat_getLast hv0).symm⟩
    simp only [List.length_append, List.length_singleton, Nat.add_right_cancel_iff] at hu hv
    have ih := swpR_cut k U' V' P (u :: M) (v :: S) b hu hv (by rw [List.length_cons]; omega)
    rw [swpR]
    have e0 : (P ++ (U' ++ [u] ++ (M ++ (V' ++ [v] ++ S)))) = (P ++ (U' ++ (u :: M ++ (V' ++ v :: S)))) := by simp
    rw [e0, ih]
    have e1 : (P ++ (V' ++ (u :: M ++ (U' ++ v :: S)))) = (P ++ V') ++ u :: ((M ++ U') ++ v :: S) := by simp
    rw [e1, swp_cut (P ++ V') (M ++ U') S u v _ _ (by rw [List.length_append]; omega) (by rw [List.length_append, List.length_append]; omega)]
    simp
/-- A world of the sort's, by the list. -/
def PRl (w0 W : World) (B blk cap : Nat) (l : List VPnt) : Prop := PR w0 W B blk cap l.toArray
theorem pswap_cut (w0 : World) (B blk cap a b k n : Nat) (P U M V S : List VPnt) (w : World) (fv : Value) (h : PRl w0 w B blk cap (P ++ (U ++ (M ++ (V ++ S))))) (hn : n = P.length + (k + (M.length + (k + S.length)))) (hu : U.length = k) (hv : V.length = k) (hk : 0 < k) (ha : a = P.length) (hb : b = P.length + k + M.length) (hsz : n ≤ 1048576) :
    Calls Tryz.prog 221 #[.slice (some ⟨blk, 0, none⟩) n cap, .int .i64 (a : Int), .int .i64 (b : Int), .int .i64 (k : Int), fv] w fun e w' => e = .returned (.tuple #[]) ∧ PRl w0 w' B blk cap (P ++ (V ++ (M ++ (U ++ S)))) := by
  have hs : (P ++ (U ++ (M ++ (V ++ S)))).toArray.size = n := by simp [hu, hv, hn]
  have e := pswap_any w0 B blk cap a b k _ w fv h (by rw [hs]; omega) (by rw [hs]; omega) (by omega) (by rw [hs]; omega)
  rw [hs, show swpR _ a b k = _ from ha ▸ swpR_cut k U V P M S b hu hv hb] at e
  exact e
set_option maxRecDepth 100000 in
set_option maxHeartbeats 12800000 in
theorem protate_any (w0 : World) (B blk cap a m b n : Nat) (P0 X0 Y0 S0 : List VPnt) (w : World) (fv : Value) (h : PRl w0 w B blk cap (P0 ++ (X0 ++ (Y0 ++ S0)))) (hn : n = P0.length + (X0.length + (Y0.length + S0.length))) (ha : a = P0.length) (hm : m = a + X0.length) (hb : b = m + Y0.length) (hx0 : 0 < X0.length) (hy0 : 0 < Y0.length) (hsz : n ≤ 1048576) :
    Calls Tryz.prog 181 #[.slice (some ⟨blk, 0, none⟩) n cap, .int .i64 (a : Int), .int .i64 (m : Int), .int .i64 (b : Int), fv] w fun e w' => e = .returned (.tuple #[]) ∧ PRl w0 w' B blk cap (P0 ++ (Y0 ++ (X0 ++ S0))) := by
  have H := Lib.hid h
  clear h
  have hmn : m ≤ n := by omega
  have hbn : b ≤ n := by omega
  have wa : IntKind.i64.wrap ((m : Int) - (a : Int)) = ((m - a : Nat) : Int) := by rw [IntWalk.i64_in _ (by omega)]; omega
  have wb : IntKind.i64.wrap ((b : Int) - (m : Int)) = ((b - m : Nat) : Int) := by rw [IntWalk.i64_in _ (by omega)]; omega
  have HS := Lib.hid (show P0.length = a ∧ X0.length = m - a ∧ Y0.length = b - m ∧ S0.length = n - b ∧ m = a + (m - a) ∧ n = a + ((m - a) + ((b - m) + (n - b))) ∧ 0 < m - a ∧ 0 < b - m by omega)
  clear hn ha hm hb hx0 hy0
  obtain ⟨i0, hi0⟩ : ∃ i0, i0 = m - a := ⟨_, rfl⟩
  obtain ⟨j0, hj0⟩ : ∃ j0, j0 = b - m := ⟨_, rfl⟩
  obtain ⟨s0, hs0⟩ : ∃ s0, s0 = n - b := ⟨_, rfl⟩
  rw [← hi0, ← hj0, ← hs0] at HS
  rw [← hi0] at wa
  rw [← hj0] at wb
  clear hi0 hj0 hs0
  go_enter Tryz.func181, Tryz.ntmps181
  go_wp2_with fail
  go_loopw [10, 11] (fun vi vj wr => ∃ (p i j s : Nat) (P X Y S : List VPnt), vi = .int .i64 (i : Int) ∧ vj = .int .i64 (j : Int) ∧ Hid (P.length = p ∧ X.length = i ∧ Y.length = j ∧ S.length = s ∧ m = p + i ∧ n = p + (i + (j + s)) ∧ 0 < i ∧ 0 < j) ∧ Hid (PRl w0 wr B blk cap (P ++ (X ++ (Y ++ S)))) ∧ Hid (P ++ (Y ++ (X ++ S)) = P0 ++ (Y0 ++ (X0 ++ S0)))) (fun vi vj _ => (intOf vi).toNat + (intOf vj).toNat)
  case atStart => exact ⟨a, i0, j0, s0, P0, X0, Y0, S0, rfl, rfl, HS, H, Lib.hid rfl⟩
  case round =>
    obtain ⟨p, i, j, s, P, X, Y, S, rfl, rfl, HQ, HP, HG⟩ := hrel
    clear H HS
    obtain ⟨q1, q2, q3, q4, q5, q6, q7, q8⟩ := HQ.out
    have wm : IntKind.i64.wrap ((m : Int) - (i : Int)) = (p : Int) := by rw [IntWalk.i64_in _ (by omega)]; omega
    rcases Nat.lt_trichotomy i j with hc | hc | hc
    · have g1 : (i : Int) ≠ (j : Int) := by omega
      have g2 : decide ((i : Int) = (j : Int)) = false := decide_eq_false g1
      have g3 : decide ((j : Int) < (i : Int)) = false := decide_eq_false (by omega)
      have wj : IntKind.i64.wrap ((m : Int) + (j : Int)) = (m : Int) + (j : Int) := IntWalk.i64_in _ (by omega)
      have wk : IntKind.i64.wrap ((m : Int) + (j : Int) - (i : Int)) = ((p + j : Nat) : Int) := by rw [IntWalk.i64_in _ (by omega)]; omega
      have wn : IntKind.i64.wrap ((j : Int) - (i : Int)) = ((j - i : Nat) : Int) := by rw [IntWalk.i64_in _ (by omega)]; omega
      have hcall : ∀ W, PRl w0 W B blk cap (P ++ (X ++ (Y ++ S))) → Calls Tryz.prog 221 #[.slice (some ⟨blk, 0, none⟩) n cap, .int .i64 (p : Int), .int .i64 ((p : Int) + (j : Int)), .int .i64 (i : Int), fv] W fun e w' => e = .returned (.tuple #[]) ∧ PRl w0 w' B blk cap (P ++ (Y.drop (j - i) ++ (Y.take (j - i) ++ (X ++ S)))) := fun W hW => by
        have e := pswap_cut w0 B blk cap p (p + j) i n P X (Y.take (j - i)) (Y.drop (j - i)) S W fv (by rw [← List.append_assoc (Y.take (j - i)), List.take_append_drop]; exact hW) (by rw [List.length_take]; omega) (by omega) (by rw [List.length_drop]; omega) (by omega) (by omega) (by rw [List.length_take]; omega) hsz
        rw [Int.natCast_add] at e
        exact e
      have hQ2 := Lib.hid (show P.length = p ∧ (Y.drop (j - i)).length = i ∧ (Y.take (j - i)).length = j - i ∧ (X ++ S).length = i + s ∧ m = p + i ∧ n = p + (i + ((j - i) + (i + s))) ∧ 0 < i ∧ 0 < j - i by simp only [List.length_take, List.length_drop, List.length_append]; omega)
      have hG2 := Lib.hid (show P ++ (Y.take (j - i) ++ (Y.drop (j - i) ++ (X ++ S))) = P0 ++ (Y0 ++ (X0 ++ S0)) by rw [← List.append_assoc (Y.take (j - i)), List.take_append_drop]; exact HG.out)
      have HP' := HP.out
      clear q1 q2 q3 q4 q5 q6
      go_wp2_with (first
        | (go_at_call 221; (with_reducible refine (hcall _ (by with_reducible assumption)).mono ?_); rintro en w5 ⟨rfl, hR5⟩; have HR5 := Lib.hid hR5; clear hR5))
      first
        | exact ⟨⟨p, i, j - i, i + s, P, Y.drop (j - i), Y.take (j - i), X ++ S, rfl, rfl, hQ2, HR5, hG2⟩, by (simp only [intOf]; omega)⟩
    · subst hc
      have g2 : decide ((i : Int) = (i : Int)) = true := decide_eq_true rfl
      have hcall : ∀ W, PRl w0 W B blk cap (P ++ (X ++ (Y ++ S))) → Calls Tryz.prog 221 #[.slice (some ⟨blk, 0, none⟩) n cap, .int .i64 (p : Int), .int .i64 (m : Int), .int .i64 (i : Int), fv] W fun e w' => e = .returned (.tuple #[]) ∧ PRl w0 w' B blk cap (P ++ (Y ++ (X ++ S))) := fun W hW => by
        have e := pswap_cut w0 B blk cap p m i n P X [] Y S W fv (by simpa using hW) (by simp; omega) (by omega) (by omega) (by omega) (by omega) (by simp; omega) hsz
        simpa using e
      rw [HG.out] at hcall
      have HP' := HP.out
      clear q1 q2 q3 q4 q5 q6
      go_wp2_with (first
        | (go_at_call 221; (with_reducible refine (hcall _ (by with_reducible assumption)).mono ?_); rintro en w5 ⟨rfl, hR5⟩))
      first
        | exact ⟨rfl, hR5⟩
        | (go_end0; exact ⟨rfl, hR5⟩)
    · have g1 : (i : Int) ≠ (j : Int) := by omega
      have g2 : decide ((i : Int) = (j : Int)) = false := decide_eq_false g1
      have g3 : decide ((j : Int) < (i : Int)) = true := decide_eq_true (by omega)
      have wn : IntKind.i64.wrap ((i : Int) - (j : Int)) = ((i - j : Nat) : Int) := by rw [IntWalk.i64_in _ (by omega)]; omega
      have hcall : ∀ W, PRl w0 W B blk cap (P ++ (X ++ (Y ++ S))) → Calls Tryz.prog 221 #[.slice (some ⟨blk, 0, none⟩) n cap, .int .i64 (p : Int), .int .i64 (m : Int), .int .i64 (j : Int), fv] W fun e w' => e = .returned (.tuple #[]) ∧ PRl w0 w' B blk cap ((P ++ Y) ++ (X.drop j ++ (X.take j ++ S))) := fun W hW => by
        have e := pswap_cut w0 B blk cap p m j n P (X.take j) (X.drop j) Y S W fv (by rw [← List.append_assoc (X.take j), List.take_append_drop]; exact hW) (by rw [List.length_drop]; omega) (by rw [List.length_take]; omega) (by omega) (by omega) (by omega) (by rw [List.length_drop]; omega) hsz
        rw [← List.append_assoc P] at e
        exact e
      have hQ2 := Lib.hid (show (P ++ Y).length = p + j ∧ (X.drop j).length = i - j ∧ (X.take j).length = j ∧ S.length = s ∧ m = p + j + (i - j) ∧ n = p + j + ((i - j) + (j + s)) ∧ 0 < i - j ∧ 0 < j by simp only [List.length_take, List.length_drop, List.length_append]; omega)
      have hG2 := Lib.hid (show (P ++ Y) ++ (X.take j ++ (X.drop j ++ S)) = P0 ++ (Y0 ++ (X0 ++ S0)) by rw [← List.append_assoc (X.take j), List.take_append_drop, List.append_assoc]; exact HG.out)
      have HP' := HP.out
      clear q1 q2 q3 q4 q5 q6
      go_wp2_with (first
        | (go_at_call 221; (with_reducible refine (hcall _ (by with_reducible assumption)).mono ?_); rintro en w5 ⟨rfl, hR5⟩; have HR5 := Lib.hid hR5; clear hR5))
      first
        | exact ⟨⟨p + j, i - j, j, s, P ++ Y, X.drop j, X.take j, S, rfl, rfl, hQ2, HR5, hG2⟩, by (simp only [intOf]; omega)⟩
end
section
open Go.RowKit Go.Sort Go.Shelf
theorem get_cut (A B C : List VPnt) (x y : VPnt) (j : Nat) (hj : j = A.length + 1 + B.length) : (A ++ x :: (B ++ y :: C)).toArray[A.length]! = x ∧ (A ++ x :: (B ++ y :: C)).toArray[j]! = y := by
  subst hj
  refine ⟨?_, ?_⟩
  · rw [getElem!_pos _ _ (by simp)]; simp
  · rw [getElem!_pos _ _ (by simp; omega)]
    simp only [List.getElem_toArray]
    rw [List.getElem_append_right (by omega)]
    have : A.length + 1 + B.length - A.length = B.length + 1 := by omega
    simp only [this, List.getElem_cons_succ]
    simp
theorem step_right (P Bs S : List VPnt) (x : VPnt) (u : Nat) (hu : u < Bs.length) : ∃ y, Bs[u]? = some y ∧ (P ++ (Bs.take u ++ x :: (Bs.drop u ++ S))).toArray[P.length + u]! = x ∧ (P ++ (Bs.take u ++ x :: (Bs.drop u ++ S))).toArray[P.length + u + 1]! = y ∧
    swp (P ++ (Bs.take u ++ x :: (Bs.drop u ++ S))).toArray (P.length + u) (P.length + u + 1) = (P ++ (Bs.take (u + 1) ++ x :: (Bs.drop (u + 1) ++ S))).toArray := by
  refine ⟨Bs[u], List.getElem?_eq_getElem hu, ?_⟩
  have hA : (P ++ Bs.take u).length = P.length + u := by rw [List.length_append, List.length_take]; omega
  have e : P ++ (Bs.take u ++ x :: (Bs.drop u ++ S)) = (P ++ Bs.take u) ++ x :: ([] ++ Bs[u] :: (Bs.drop (u + 1) ++ S)) := by
    simp only [List.append_assoc, List.nil_append]; rw [List.drop_eq_getElem_cons hu]; rfl
  have e2 : P ++ (Bs.take (u + 1) ++ x :: (Bs.drop (u + 1) ++ S)) = (P ++ Bs.take u) ++ Bs[u] :: ([] ++ x :: (Bs.drop (u + 1) ++ S)) := by
    simp only [List.append_assoc, List.nil_append]; rw [List.take_succ_eq_append_getElem hu]; simp only [List.append_assoc]; rfl
  have g := get_cut (P ++ Bs.take u) [] (Bs.drop (u + 1) ++ S) x Bs[u] (P.length + u + 1) (by rw [hA]; simp)
  rw [hA] at g
  rw [e, e2]
  exact ⟨g.1, g.2, swp_cut _ _ _ _ _ _ _ hA.symm (by rw [hA]; simp)⟩
set_option maxRecDepth 100000 in
set_option maxHeartbeats 12800000 in
theorem psymA_any (w0 : World) (B blk cap a b n : Nat) (P Bs S : List VPnt) (x : VPnt) (w : World) (h : PRl w0 w B blk cap (P ++ (x :: (Bs ++ S)))) (ha : a = P.length) (hb : b = a + 1 + Bs.length) (hn : n = P.length + (1 + (Bs.length + S.length))) (hB0 : 0 < Bs.length) (hsz : n ≤ 1048576) :
    Calls Tryz.prog 133 #[.slice (some ⟨blk, 0, none⟩) n cap, .int .i64 (a : Int), .int .i64 ((a + 1 : Nat) : Int), .int .i64 (b : Int), .func (.func 47) #[] #[]] w fun e w' => e = .returned (.tuple #[]) ∧ ∃ t, t ≤ Bs.length ∧ (∀ y, 0 < t → Bs[t - 1]? = some y → ltOf pcf y x = true) ∧ (∀ y, Bs[t]? = some y → ltOf pcf y x = false) ∧ PRl w0 w' B blk cap (P ++ (Bs.take t ++ x :: (Bs.drop t ++ S))) := by
  have H := Lib.hid h
  clear h
  obtain ⟨m, hm⟩ : ∃ m, m = a + 1 := ⟨_, rfl⟩
  rw [← hm]
  obtain ⟨s, hs⟩ : ∃ s, s = Bs.length := ⟨_, rfl⟩
  have hmn : m ≤ n := by omega
  have hbn : b ≤ n := by omega
  have HS := Lib.hid (show a = P.length ∧ m = a + 1 ∧ b = m + Bs.length ∧ n = P.length + (1 + (Bs.length + S.length)) ∧ 0 < Bs.length by omega)
  have wm : IntKind.i64.wrap ((m : Int) - (a : Int)) = 1 := by rw [IntWalk.i64_in _ (by omega)]; omega
  clear ha hb hn hm hB0 hs
  go_enter Tryz.func133, Tryz.ntmps133
  obtain ⟨d, hd⟩ : ∃ d, d = (P ++ (x :: (Bs ++ S))).toArray := ⟨_, rfl⟩
  have H : Hid (PR w0 w B blk cap d) := by rw [hd]; exact H
  have hds : d.size = n := by rw [hd]; have := HS.out; simp; omega
  have hda : d[a]! = x := by
    rw [hd, HS.out.1, getElem!_pos _ _ (by simp)]; simp
  have hdm : ∀ u y, Bs[u]? = some y → d[m + u]! = y := fun u y hy => by
    obtain ⟨hu, e⟩ := List.getElem?_eq_some_iff.1 hy
    have h1 := HS.out
    rw [hd, getElem!_pos _ _ (by simp; omega), List.getElem_toArray, List.getElem_append_right (by omega)]
    have : m + u - P.length = u + 1 := by omega
    simp only [this, List.getElem_cons_succ]
    rw [List.getElem_append_left hu, e]
  have hab : a < m := by have := HS.out; omega
  have hmb : m ≤ b := by have := HS.out; omega
  have hbl : b - m = Bs.length := by have := HS.out; omega
  go_wp2_with fail
  go_loopw [10, 11] (fun vi vj wr => ∃ (i j : Nat), vi = .int .i64 (i : Int) ∧ vj = .int .i64 (j : Int) ∧ m ≤ i ∧ i ≤ j ∧ j ≤ b ∧ Hid (PR w0 wr B blk cap d) ∧ Hid (∀ y, m < i → Bs[i - 1 - m]? = some y → ltOf pcf y x = true) ∧ Hid (∀ y, Bs[j - m]? = some y → ltOf pcf y x = false)) (fun vi vj _ => (intOf vj).toNat - (intOf vi).toNat)
  case atStart => exact ⟨m, b, rfl, rfl, Nat.le_refl _, hmb, Nat.le_refl _, H, Lib.hid (fun y h => by omega), Lib.hid (fun y h => by rw [hbl] at h; simp at h)⟩
  case round =>
    obtain ⟨i, j, rfl, rfl, hmi, hij, hjb, HP, HL, HR⟩ := hrel
    clear H
    by_cases hlt : i < j
    · have hltz : decide ((i : Int) < (j : Int)) = true := decide_eq_true (by omega)
      have wij : IntKind.i64.wrap ((i : Int) + (j : Int)) = (i : Int) + (j : Int) := IntWalk.i64_in _ (by omega)
      obtain ⟨h, hh⟩ : ∃ h, h = (i + j) / 2 := ⟨_, rfl⟩
      have hi1 : i ≤ h := by omega
      have hj1 : h < j := by omega
      have hu : h - m < Bs.length := by omega
      obtain ⟨y, hy⟩ : ∃ y, Bs[h - m]? = some y := ⟨_, List.getElem?_eq_getElem hu⟩
      have hdh : d[h]! = y := by have := hdm _ y hy; rwa [show m + (h - m) = h by omega] at this
      have hS0 : (wr.cell? ⟨blk, h * 9, none⟩ = some (.slice y.A y.pt.labels.length y.c) ∧ wr.cell? ⟨blk, h * 9 + 1, none⟩ = some (.int .i64 (y.pt.role : Int)) ∧ wr.cell? ⟨blk, h * 9 + 2, none⟩ = some (.bool y.pt.inf) ∧ wr.cell? ⟨blk, h * 9 + 3, none⟩ = some (.int .i64 y.pt.bM) ∧ wr.cell? ⟨blk, h * 9 + 4, none⟩ = some (.int .i64 (y.pt.bS : Int)) ∧ wr.cell? ⟨blk, h * 9 + 5, none⟩ = some (.int .i64 y.pt.vM) ∧ wr.cell? ⟨blk, h * 9 + 6, none⟩ = some (.int .i64 (y.pt.vS : Int)) ∧ wr.cell? ⟨blk, h * 9 + 7, none⟩ = some (.bool y.pt.timed) ∧ wr.cell? ⟨blk, h * 9 + 8, none⟩ = some (.int .i64 y.pt.time)) ∧ (wr.cell? ⟨blk, a * 9, none⟩ = some (.slice x.A x.pt.labels.length x.c) ∧ wr.cell? ⟨blk, a * 9 + 1, none⟩ = some (.int .i64 (x.pt.role : Int)) ∧ wr.cell? ⟨blk, a * 9 + 2, none⟩ = some (.bool x.pt.inf) ∧ wr.cell? ⟨blk, a * 9 + 3, none⟩ = some (.int .i64 x.pt.bM) ∧ wr.cell? ⟨blk, a * 9 + 4, none⟩ = some (.int .i64 (x.pt.bS : Int)) ∧ wr.cell? ⟨blk, a * 9 + 5, none⟩ = some (.int .i64 x.pt.vM) ∧ wr.cell? ⟨blk, a * 9 + 6, none⟩ = some (.int .i64 (x.pt.vS : Int)) ∧ wr.cell? ⟨blk, a * 9 + 7, none⟩ = some (.bool x.pt.timed) ∧ wr.cell? ⟨blk, a * 9 + 8, none⟩ = some (.int .i64 x.pt.time)) ∧ PR w0 wr B blk cap d := ⟨by rw [← hdh]; exact HP.out.row (by omega), by rw [← hda]; exact HP.out.row (by omega), HP.out⟩
      have hcmp : ∀ W, PR w0 W B blk cap d → Calls Tryz.prog 47 #[.agg #[.slice y.A y.pt.labels.length y.c, .int .i64 (y.pt.role : Int), .bool y.pt.inf, .int .i64 y.pt.bM, .int .i64 (y.pt.bS : Int), .int .i64 y.pt.vM, .int .i64 (y.pt.vS : Int), .bool y.pt.timed, .int .i64 y.pt.time], .agg #[.slice x.A x.pt.labels.length x.c, .int .i64 (x.pt.role : Int), .bool x.pt.inf, .int .i64 x.pt.bM, .int .i64 (x.pt.bS : Int), .int .i64 x.pt.vM, .int .i64 (x.pt.vS : Int), .bool x.pt.timed, .int .i64 x.pt.time]] W fun e w2 => e = .returned (.int .i64 (pcf y x)) ∧ Aw [] W w2 := fun W hW => cmp_pr (i := h) (j := a) (by omega) (by omega) y x hdh hda hW
      have hst : ∀ W, PR w0 W B blk cap d → (W.cell? ⟨blk, h * 9, none⟩ = some (.slice y.A y.pt.labels.length y.c) ∧ W.cell? ⟨blk, h * 9 + 1, none⟩ = some (.int .i64 (y.pt.role : Int)) ∧ W.cell? ⟨blk, h * 9 + 2, none⟩ = some (.bool y.pt.inf) ∧ W.cell? ⟨blk, h * 9 + 3, none⟩ = some (.int .i64 y.pt.bM) ∧ W.cell? ⟨blk, h * 9 + 4, none⟩ = some (.int .i64 (y.pt.bS : Int)) ∧ W.cell? ⟨blk, h * 9 + 5, none⟩ = some (.int .i64 y.pt.vM) ∧ W.cell? ⟨blk, h * 9 + 6, none⟩ = some (.int .i64 (y.pt.vS : Int)) ∧ W.cell? ⟨blk, h * 9 + 7, none⟩ = some (.bool y.pt.timed) ∧ W.cell? ⟨blk, h * 9 + 8, none⟩ = some (.int .i64 y.pt.time)) ∧ (W.cell? ⟨blk, a * 9, none⟩ = some (.slice x.A x.pt.labels.length x.c) ∧ W.cell? ⟨blk, a * 9 + 1, none⟩ = some (.int .i64 (x.pt.role : Int)) ∧ W.cell? ⟨blk, a * 9 + 2, none⟩ = some (.bool x.pt.inf) ∧ W.cell? ⟨blk, a * 9 + 3, none⟩ = some (.int .i64 x.pt.bM) ∧ W.cell? ⟨blk, a * 9 + 4, none⟩ = some (.int .i64 (x.pt.bS : Int)) ∧ W.cell? ⟨blk, a * 9 + 5, none⟩ = some (.int .i64 x.pt.vM) ∧ W.cell? ⟨blk, a * 9 + 6, none⟩ = some (.int .i64 (x.pt.vS : Int)) ∧ W.cell? ⟨blk, a * 9 + 7, none⟩ = some (.bool x.pt.timed) ∧ W.cell? ⟨blk, a * 9 + 8, none⟩ = some (.int .i64 x.pt.time)) ∧ PR w0 W B blk cap d := fun W hW => ⟨by rw [← hdh]; exact hW.row (by omega), by rw [← hda]; exact hW.row (by omega), hW⟩
      have HLT : Hid (ltOf pcf y x = decide (pcf y x < 0)) := Lib.hid rfl
      have HL' := HL
      have HY := Lib.hid hy
      have jz : (h : Int) < (n : Int) := by omega
      have jz1 : (a : Int) < (n : Int) := by omega
      have hwp : IntKind.i64.wrap ((h : Int) + 1) = (h : Int) + 1 := IntWalk.i64_in _ (by omega)
      clear hy hdh hdm hd
      generalize pcf y x = C at *
      go_upto_region 5 with (fail)
      have hq : ((i : Int) + (j : Int)) / 2 = (h : Int) := by omega
      rw [hq]
      clear hq hh
      cases hc : decide (C < 0)
      all_goals
        go_region_held3 (fun w' => (w'.cell? ⟨blk, h * 9, none⟩ = some (.slice y.A y.pt.labels.length y.c) ∧ w'.cell? ⟨blk, h * 9 + 1, none⟩ = some (.int .i64 (y.pt.role : Int)) ∧ w'.cell? ⟨blk, h * 9 + 2, none⟩ = some (.bool y.pt.inf) ∧ w'.cell? ⟨blk, h * 9 + 3, none⟩ = some (.int .i64 y.pt.bM) ∧ w'.cell? ⟨blk, h * 9 + 4, none⟩ = some (.int .i64 (y.pt.bS : Int)) ∧ w'.cell? ⟨blk, h * 9 + 5, none⟩ = some (.int .i64 y.pt.vM) ∧ w'.cell? ⟨blk, h * 9 + 6, none⟩ = some (.int .i64 (y.pt.vS : Int)) ∧ w'.cell? ⟨blk, h * 9 + 7, none⟩ = some (.bool y.pt.timed) ∧ w'.cell? ⟨blk, h * 9 + 8, none⟩ = some (.int .i64 y.pt.time)) ∧ (w'.cell? ⟨blk, a * 9, none⟩ = some (.slice x.A x.pt.labels.length x.c) ∧ w'.cell? ⟨blk, a * 9 + 1, none⟩ = some (.int .i64 (x.pt.role : Int)) ∧ w'.cell? ⟨blk, a * 9 + 2, none⟩ = some (.bool x.pt.inf) ∧ w'.cell? ⟨blk, a * 9 + 3, none⟩ = some (.int .i64 x.pt.bM) ∧ w'.cell? ⟨blk, a * 9 + 4, none⟩ = some (.int .i64 (x.pt.bS : Int)) ∧ w'.cell? ⟨blk, a * 9 + 5, none⟩ = some (.int .i64 x.pt.vM) ∧ w'.cell? ⟨blk, a * 9 + 6, none⟩ = some (.int .i64 (x.pt.vS : Int)) ∧ w'.cell? ⟨blk, a * 9 + 7, none⟩ = some (.bool x.pt.timed) ∧ w'.cell? ⟨blk, a * 9 + 8, none⟩ = some (.int .i64 x.pt.time)) ∧ PR w0 w' B blk cap d) (first | (with_reducible assumption) | (with_reducible exact hS0) | (exact hst _ HP.out.drew)) (first
          | (go_at_call 47; (with_reducible refine (hcmp _ (And.right (And.right (by with_reducible assumption)))).mono ?_); rintro en w5 ⟨rfl, hA5⟩; have S5 := hst _ (PR.call (And.right (And.right (by with_reducible assumption))) hA5)))
        rename_i hHeld
        obtain ⟨_, _, hY⟩ := hHeld
        go_wp2_with fail
      · first
          | exact ⟨⟨i, h, rfl, rfl, hmi, hi1, by omega, Lib.hid hY, HL, Lib.hid (fun y' hy' => by rw [HY.out] at hy'; injection hy' with hy'; subst hy'; rw [HLT.out]; exact hc)⟩, by (simp only [intOf]; omega)⟩
      · first
          | exact ⟨⟨h + 1, j, by simp, rfl, by omega, by omega, hjb, Lib.hid hY, Lib.hid (fun y' _ hy' => by rw [Nat.add_sub_cancel, HY.out] at hy'; injection hy' with hy'; subst hy'; rw [HLT.out]; exact hc), HR⟩, by (simp only [intOf]; omega)⟩
    · have hltz : decide ((i : Int) < (j : Int)) = false := decide_eq_false (by omega)
      have e : i = j := by omega
      subst e
      obtain ⟨t, ht⟩ : ∃ t, t = i - m := ⟨_, rfl⟩
      have htl : t ≤ Bs.length := by omega
      have wi : IntKind.i64.wrap ((i : Int) - 1) = ((a + t : Nat) : Int) := by rw [IntWalk.i64_in _ (by omega)]; have := HS.out; omega
      have hPa : a = P.length := HS.out.1
      have HF := Lib.hid (show (∀ y, 0 < t → Bs[t - 1]? = some y → ltOf pcf y x = true) ∧ (∀ y, Bs[t]? = some y → ltOf pcf y x = false) from ⟨fun y h0 hy => HL.out y (by omega) (by rw [show i - 1 - m = t - 1 by omega]; exact hy), fun y hy => HR.out y (by rw [← ht]; exact hy)⟩)
      have H2 : Hid (PRl w0 wr B blk cap (P ++ (Bs.take 0 ++ x :: (Bs.drop 0 ++ S)))) := Lib.hid (by have := HP.out; rw [hd] at this; exact this)
      have hsn : ∀ u, (P ++ (Bs.take u ++ x :: (Bs.drop u ++ S))).toArray.size = n := fun u => by
        have := HS.out
        simp only [List.size_toArray, List.length_append, List.length_cons, List.length_take, List.length_drop]; omega
      have HSN := Lib.hid hsn
      have hat : a + t ≤ n := by omega
      clear HL HR HP hdm hd hsn ht
      go_wp2_with fail
      go_loopw [13] (fun vk wr2 => ∃ u : Nat, vk = .int .i64 ((a + u : Nat) : Int) ∧ u ≤ t ∧ Hid (PRl w0 wr2 B blk cap (P ++ (Bs.take u ++ x :: (Bs.drop u ++ S))))) (fun vk _ => a + t - (intOf vk).toNat)
      case atStart => exact ⟨0, by simp, by omega, H2⟩
      case round =>
        obtain ⟨u, rfl, hut, HU⟩ := hrel
        clear H2
        obtain ⟨k, hk⟩ : ∃ k, k = a + u := ⟨_, rfl⟩
        rw [← hk]
        by_cases hlu : u < t
        · have hg : decide ((k : Int) < ((a + t : Nat) : Int)) = true := decide_eq_true (by omega)
          have hg2 : decide ((k : Int) < (a : Int) + (t : Int)) = true := decide_eq_true (by omega)
          have hg3 : decide (k < a + t) = true := decide_eq_true (by omega)
          obtain ⟨y, hy, hx1, hy1, hsw⟩ := step_right P Bs S x u (by omega)
          have hsz2 := HSN.out u
          rw [← hPa, ← hk] at hx1 hy1 hsw
          obtain ⟨x0, x1, x2, x3, x4, x5, x6, x7, x8⟩ : wr.cell? ⟨blk, k * 9, none⟩ = some (.slice x.A x.pt.labels.length x.c) ∧ wr.cell? ⟨blk, k * 9 + 1, none⟩ = some (.int .i64 (x.pt.role : Int)) ∧ wr.cell? ⟨blk, k * 9 + 2, none⟩ = some (.bool x.pt.inf) ∧ wr.cell? ⟨blk, k * 9 + 3, none⟩ = some (.int .i64 x.pt.bM) ∧ wr.cell? ⟨blk, k * 9 + 4, none⟩ = some (.int .i64 (x.pt.bS : Int)) ∧ wr.cell? ⟨blk, k * 9 + 5, none⟩ = some (.int .i64 x.pt.vM) ∧ wr.cell? ⟨blk, k * 9 + 6, none⟩ = some (.int .i64 (x.pt.vS : Int)) ∧ wr.cell? ⟨blk, k * 9 + 7, none⟩ = some (.bool x.pt.timed) ∧ wr.cell? ⟨blk, k * 9 + 8, none⟩ = some (.int .i64 x.pt.time) := by have := PR.row HU.out (i := k) (by omega); rwa [hx1] at this
          obtain ⟨y0, y1, y2, y3, y4, y5, y6, y7, y8⟩ : wr.cell? ⟨blk, (k + 1) * 9, none⟩ = some (.slice y.A y.pt.labels.length y.c) ∧ wr.cell? ⟨blk, (k + 1) * 9 + 1, none⟩ = some (.int .i64 (y.pt.role : Int)) ∧ wr.cell? ⟨blk, (k + 1) * 9 + 2, none⟩ = some (.bool y.pt.inf) ∧ wr.cell? ⟨blk, (k + 1) * 9 + 3, none⟩ = some (.int .i64 y.pt.bM) ∧ wr.cell? ⟨blk, (k + 1) * 9 + 4, none⟩ = some (.int .i64 (y.pt.bS : Int)) ∧ wr.cell? ⟨blk, (k + 1) * 9 + 5, none⟩ = some (.int .i64 y.pt.vM) ∧ wr.cell? ⟨blk, (k + 1) * 9 + 6, none⟩ = some (.int .i64 (y.pt.vS : Int)) ∧ wr.cell? ⟨blk, (k + 1) * 9 + 7, none⟩ = some (.bool y.pt.timed) ∧ wr.cell? ⟨blk, (k + 1) * 9 + 8, none⟩ = some (.int .i64 y.pt.time) := by have := PR.row HU.out (i := k + 1) (by omega); rwa [hy1] at this
          have fx0 := PR.fz HU.out (k * 9); have fx1 := PR.fz HU.out (k * 9 + 1); have fx2 := PR.fz HU.out (k * 9 + 2); have fx3 := PR.fz HU.out (k * 9 + 3); have fx4 := PR.fz HU.out (k * 9 + 4); have fx5 := PR.fz HU.out (k * 9 + 5); have fx6 := PR.fz HU.out (k * 9 + 6); have fx7 := PR.fz HU.out (k * 9 + 7); have fx8 := PR.fz HU.out (k * 9 + 8)
          have fy0 := PR.fz HU.out ((k + 1) * 9); have fy1 := PR.fz HU.out ((k + 1) * 9 + 1); have fy2 := PR.fz HU.out ((k + 1) * 9 + 2); have fy3 := PR.fz HU.out ((k + 1) * 9 + 3); have fy4 := PR.fz HU.out ((k + 1) * 9 + 4); have fy5 := PR.fz HU.out ((k + 1) * 9 + 5); have fy6 := PR.fz HU.out ((k + 1) * 9 + 6); have fy7 := PR.fz HU.out ((k + 1) * 9 + 7); have fy8 := PR.fz HU.out ((k + 1) * 9 + 8)
          have hY2 := PR.swap HU.out (i := k) (j := k + 1) (by omega) (by omega) x y hx1 hy1
          rw [hsw] at hY2
          have HY2 : Hid (PRl _ _ _ _ _ _) := Lib.hid hY2.drew
          have wk : IntKind.i64.wrap ((k : Int) + 1) = (k : Int) + 1 := IntWalk.i64_in _ (by omega)
          have jz : (k : Int) < (n : Int) := by omega
          have jz1 : (k : Int) + 1 < (n : Int) := by omega
          have p1 : (0 : Int) ≤ (k : Int) + 1 := by omega
          have HK := Lib.hid hk
          clear hY2 hsw hx1 hy1 hy hk hPa
          go_upto_region 11 with (fail)
          go_region
          first
            | (go_wp2_with fail
               exact ⟨⟨u + 1, by (have := HK.out; congr 1; omega), by omega, HY2⟩, by (have := HK.out; simp only [intOf]; omega)⟩)
        · have hg : decide ((k : Int) < ((a + t : Nat) : Int)) = false := decide_eq_false (by omega)
          have hg2 : decide ((k : Int) < (a : Int) + (t : Int)) = false := decide_eq_false (by omega)
          have hg3 : decide (k < a + t) = false := decide_eq_false (by omega)
          have e : u = t := by omega
          have HF1 := HF.out.1
          have HF2 := HF.out.2
          have HU2 := HU.out
          rw [e] at HU2
          clear hk hPa
          go_wp2_with fail
          first
            | exact ⟨rfl, t, htl, HF1, HF2, HU2⟩
            | (go_end0; exact ⟨rfl, t, htl, HF1, HF2, HU2⟩)
            | exact bodyPost_ret (v := .tuple #[]) (by first | rfl | simp [results, Tryz.results133, go_sem]) rfl ⟨rfl, t, htl, HF1, HF2, HU2⟩
end
section
open Go.RowKit Go.Sort Go.Shelf
theorem step_left (P Bs S : List VPnt) (x : VPnt) (u : Nat) (hu : u < Bs.length) : ∃ y, Bs[u]? = some y ∧ (P ++ (Bs.take (u + 1) ++ x :: (Bs.drop (u + 1) ++ S))).toArray[P.length + u]! = y ∧ (P ++ (Bs.take (u + 1) ++ x :: (Bs.drop (u + 1) ++ S))).toArray[P.length + u + 1]! = x ∧
    swp (P ++ (Bs.take (u + 1) ++ x :: (Bs.drop (u + 1) ++ S))).toArray (P.length + u + 1) (P.length + u) = (P ++ (Bs.take u ++ x :: (Bs.drop u ++ S))).toArray := by
  refine ⟨Bs[u], List.getElem?_eq_getElem hu, ?_⟩
  have hA : (P ++ Bs.take u).length = P.length + u := by rw [List.length_append, List.length_take]; omega
  have e : P ++ (Bs.take u ++ x :: (Bs.drop u ++ S)) = (P ++ Bs.take u) ++ x :: ([] ++ Bs[u] :: (Bs.drop (u + 1) ++ S)) := by
    simp only [List.append_assoc, List.nil_append]; rw [List.drop_eq_getElem_cons hu]; rfl
  have e2 : P ++ (Bs.take (u + 1) ++ x :: (Bs.drop (u + 1) ++ S)) = (P ++ Bs.take u) ++ Bs[u] :: ([] ++ x :: (Bs.drop (u + 1) ++ S)) := by
    simp only [List.append_assoc, List.nil_append]; rw [List.take_succ_eq_append_getElem hu]; simp only [List.append_assoc]; rfl
  have g := get_cut (P ++ Bs.take u) [] (Bs.drop (u + 1) ++ S) Bs[u] x (P.length + u + 1) (by rw [hA]; simp)
  rw [hA] at g
  rw [e, e2]
  refine ⟨g.1, g.2, ?_⟩
  have hw : ∀ (d : Array VPnt) i j, i ≠ j → swp d i j = swp d j i := fun d i j h => by
    unfold swp; rw [Array.setIfInBounds_comm _ _ h]
  rw [hw _ _ _ (by omega)]
  exact swp_cut _ _ _ _ _ _ _ hA.symm (by rw [hA]; simp)
set_option maxRecDepth 100000 in
set_option maxHeartbeats 12800000 in
theorem psymB_any (w0 : World) (B blk cap a b n : Nat) (P Bs S : List VPnt) (x : VPnt) (w : World) (h : PRl w0 w B blk cap (P ++ (Bs ++ (x :: S)))) (ha : a = P.length) (hb : b = a + Bs.length + 1) (hn : n = P.length + (1 + (Bs.length + S.length))) (hB0 : 1 < Bs.length) (hsz : n ≤ 1048576) :
    Calls Tryz.prog 133 #[.slice (some ⟨blk, 0, none⟩) n cap, .int .i64 (a : Int), .int .i64 ((a + Bs.length : Nat) : Int), .int .i64 (b : Int), .func (.func 47) #[] #[]] w fun e w' => e = .returned (.tuple #[]) ∧ ∃ t, t ≤ Bs.length ∧ (∀ y, 0 < t → Bs[t - 1]? = some y → ltOf pcf x y = false) ∧ (∀ y, Bs[t]? = some y → ltOf pcf x y = true) ∧ PRl w0 w' B blk cap (P ++ (Bs.take t ++ x :: (Bs.drop t ++ S))) := by
  have H := Lib.hid h
  clear h
  obtain ⟨m, hm⟩ : ∃ m, m = a + Bs.length := ⟨_, rfl⟩
  rw [← hm]
  obtain ⟨s, hs⟩ : ∃ s, s = Bs.length := ⟨_, rfl⟩
  have hmn : m ≤ n := by omega
  have hbn : b ≤ n := by omega
  have HS := Lib.hid (show a = P.length ∧ m = a + Bs.length ∧ b = m + 1 ∧ n = P.length + (1 + (Bs.length + S.length)) ∧ 1 < Bs.length by omega)
  obtain ⟨q, hq⟩ : ∃ q : Nat, q = m - a := ⟨_, rfl⟩
  have wm : IntKind.i64.wrap ((m : Int) - (a : Int)) = (q : Int) := by rw [IntWalk.i64_in _ (by omega)]; omega
  have wm1 : ((q : Int) == 1) = false := by rw [beq_eq_false_iff_ne]; omega
  have wm2 : decide ((q : Int) = 1) = false := decide_eq_false (by omega)
  have wb : IntKind.i64.wrap ((b : Int) - (m : Int)) = 1 := by rw [IntWalk.i64_in _ (by omega)]; omega
  clear ha hb hn hm hB0 hs hq
  go_enter Tryz.func133, Tryz.ntmps133
  obtain ⟨d, hd⟩ : ∃ d, d = (P ++ (Bs ++ (x :: S))).toArray := ⟨_, rfl⟩
  have H : Hid (PR w0 w B blk cap d) := by rw [hd]; exact H
  have hds : d.size = n := by rw [hd]; have := HS.out; simp; omega
  have hda : d[m]! = x := by
    have h1 := HS.out
    rw [hd, getElem!_pos _ _ (by simp; omega), List.getElem_toArray, List.getElem_append_right (by omega), List.getElem_append_right (by omega)]
    have : m - P.length - Bs.length = 0 := by omega
    simp only [this, List.getElem_cons_zero]
  have hdm : ∀ u y, Bs[u]? = some y → d[a + u]! = y := fun u y hy => by
    obtain ⟨hu, e⟩ := List.getElem?_eq_some_iff.1 hy
    have h1 := HS.out
    rw [hd, getElem!_pos _ _ (by simp; omega), List.getElem_toArray, List.getElem_append_right (by omega)]
    have : a + u - P.length = u := by omega
    simp only [this]
    rw [List.getElem_append_left hu, e]
  have hab : a < m := by have := HS.out; omega
  have hmb : m ≤ b := by have := HS.out; omega
  have hmlt : m < n := by have := HS.out; omega
  have hbl : m - a = Bs.length := by have := HS.out; omega
  go_wp2_with fail
  go_loopw [14, 15] (fun vi vj wr => ∃ (i j : Nat), vi = .int .i64 (i : Int) ∧ vj = .int .i64 (j : Int) ∧ a ≤ i ∧ i ≤ j ∧ j ≤ m ∧ Hid (PR w0 wr B blk cap d) ∧ Hid (∀ y, a < i → Bs[i - 1 - a]? = some y → ltOf pcf x y = false) ∧ Hid (∀ y, Bs[j - a]? = some y → ltOf pcf x y = true)) (fun vi vj _ => (intOf vj).toNat - (intOf vi).toNat)
  case atStart => exact ⟨a, m, rfl, rfl, Nat.le_refl _, Nat.le_of_lt hab, Nat.le_refl _, H, Lib.hid (fun y h => by omega), Lib.hid (fun y h => by rw [hbl] at h; simp at h)⟩
  case round =>
    obtain ⟨i, j, rfl, rfl, hmi, hij, hjb, HP, HL, HR⟩ := hrel
    clear H
    by_cases hlt : i < j
    · have hltz : decide ((i : Int) < (j : Int)) = true := decide_eq_true (by omega)
      have wij : IntKind.i64.wrap ((i : Int) + (j : Int)) = (i : Int) + (j : Int) := IntWalk.i64_in _ (by omega)
      obtain ⟨h, hh⟩ : ∃ h, h = (i + j) / 2 := ⟨_, rfl⟩
      have hi1 : i ≤ h := by omega
      have hj1 : h < j := by omega
      have hu : h - a < Bs.length := by omega
      obtain ⟨y, hy⟩ : ∃ y, Bs[h - a]? = some y := ⟨_, List.getElem?_eq_getElem hu⟩
      have hdh : d[h]! = y := by have := hdm _ y hy; rwa [show a + (h - a) = h by omega] at this
      have hS0 : (wr.cell? ⟨blk, h * 9, none⟩ = some (.slice y.A y.pt.labels.length y.c) ∧ wr.cell? ⟨blk, h * 9 + 1, none⟩ = some (.int .i64 (y.pt.role : Int)) ∧ wr.cell? ⟨blk, h * 9 + 2, none⟩ = some (.bool y.pt.inf) ∧ wr.cell? ⟨blk, h * 9 + 3, none⟩ = some (.int .i64 y.pt.bM) ∧ wr.cell? ⟨blk, h * 9 + 4, none⟩ = some (.int .i64 (y.pt.bS : Int)) ∧ wr.cell? ⟨blk, h * 9 + 5, none⟩ = some (.int .i64 y.pt.vM) ∧ wr.cell? ⟨blk, h * 9 + 6, none⟩ = some (.int .i64 (y.pt.vS : Int)) ∧ wr.cell? ⟨blk, h * 9 + 7, none⟩ = some (.bool y.pt.timed) ∧ wr.cell? ⟨blk, h * 9 + 8, none⟩ = some (.int .i64 y.pt.time)) ∧ (wr.cell? ⟨blk, m * 9, none⟩ = some (.slice x.A x.pt.labels.length x.c) ∧ wr.cell? ⟨blk, m * 9 + 1, none⟩ = some (.int .i64 (x.pt.role : Int)) ∧ wr.cell? ⟨blk, m * 9 + 2, none⟩ = some (.bool x.pt.inf) ∧ wr.cell? ⟨blk, m * 9 + 3, none⟩ = some (.int .i64 x.pt.bM) ∧ wr.cell? ⟨blk, m * 9 + 4, none⟩ = some (.int .i64 (x.pt.bS : Int)) ∧ wr.cell? ⟨blk, m * 9 + 5, none⟩ = some (.int .i64 x.pt.vM) ∧ wr.cell? ⟨blk, m * 9 + 6, none⟩ = some (.int .i64 (x.pt.vS : Int)) ∧ wr.cell? ⟨blk, m * 9 + 7, none⟩ = some (.bool x.pt.timed) ∧ wr.cell? ⟨blk, m * 9 + 8, none⟩ = some (.int .i64 x.pt.time)) ∧ PR w0 wr B blk cap d := ⟨by rw [← hdh]; exact HP.out.row (by omega), by rw [← hda]; exact HP.out.row (by omega), HP.out⟩
      have hcmp : ∀ W, PR w0 W B blk cap d → Calls Tryz.prog 47 #[.agg #[.slice x.A x.pt.labels.length x.c, .int .i64 (x.pt.role : Int), .bool x.pt.inf, .int .i64 x.pt.bM, .int .i64 (x.pt.bS : Int), .int .i64 x.pt.vM, .int .i64 (x.pt.vS : Int), .bool x.pt.timed, .int .i64 x.pt.time], .agg #[.slice y.A y.pt.labels.length y.c, .int .i64 (y.pt.role : Int), .bool y.pt.inf, .int .i64 y.pt.bM, .int .i64 (y.pt.bS : Int), .int .i64 y.pt.vM, .int .i64 (y.pt.vS : Int), .bool y.pt.timed, .int .i64 y.pt.time]] W fun e w2 => e = .returned (.int .i64 (pcf x y)) ∧ Aw [] W w2 := fun W hW => cmp_pr (i := m) (j := h) (by omega) (by omega) x y hda hdh hW
      have hst : ∀ W, PR w0 W B blk cap d → (W.cell? ⟨blk, h * 9, none⟩ = some (.slice y.A y.pt.labels.length y.c) ∧ W.cell? ⟨blk, h * 9 + 1, none⟩ = some (.int .i64 (y.pt.role : Int)) ∧ W.cell? ⟨blk, h * 9 + 2, none⟩ = some (.bool y.pt.inf) ∧ W.cell? ⟨blk, h * 9 + 3, none⟩ = some (.int .i64 y.pt.bM) ∧ W.cell? ⟨blk, h * 9 + 4, none⟩ = some (.int .i64 (y.pt.bS : Int)) ∧ W.cell? ⟨blk, h * 9 + 5, none⟩ = some (.int .i64 y.pt.vM) ∧ W.cell? ⟨blk, h * 9 + 6, none⟩ = some (.int .i64 (y.pt.vS : Int)) ∧ W.cell? ⟨blk, h * 9 + 7, none⟩ = some (.bool y.pt.timed) ∧ W.cell? ⟨blk, h * 9 + 8, none⟩ = some (.int .i64 y.pt.time)) ∧ (W.cell? ⟨blk, m * 9, none⟩ = some (.slice x.A x.pt.labels.length x.c) ∧ W.cell? ⟨blk, m * 9 + 1, none⟩ = some (.int .i64 (x.pt.role : Int)) ∧ W.cell? ⟨blk, m * 9 + 2, none⟩ = some (.bool x.pt.inf) ∧ W.cell? ⟨blk, m * 9 + 3, none⟩ = some (.int .i64 x.pt.bM) ∧ W.cell? ⟨blk, m * 9 + 4, none⟩ = some (.int .i64 (x.pt.bS : Int)) ∧ W.cell? ⟨blk, m * 9 + 5, none⟩ = some (.int .i64 x.pt.vM) ∧ W.cell? ⟨blk, m * 9 + 6, none⟩ = some (.int .i64 (x.pt.vS : Int)) ∧ W.cell? ⟨blk, m * 9 + 7, none⟩ = some (.bool x.pt.timed) ∧ W.cell? ⟨blk, m * 9 + 8, none⟩ = some (.int .i64 x.pt.time)) ∧ PR w0 W B blk cap d := fun W hW => ⟨by rw [← hdh]; exact hW.row (by omega), by rw [← hda]; exact hW.row (by omega), hW⟩
      have HLT : Hid (ltOf pcf x y = decide (pcf x y < 0)) := Lib.hid rfl
      have HL' := HL
      have HY := Lib.hid hy
      have jz : (h : Int) < (n : Int) := by omega
      have jz1 : (m : Int) < (n : Int) := by omega
      have hwp : IntKind.i64.wrap ((h : Int) + 1) = (h : Int) + 1 := IntWalk.i64_in _ (by omega)
      clear hy hdh hdm hd
      generalize pcf x y = C at *
      go_upto_region 17 with (fail)
      have hq : ((i : Int) + (j : Int)) / 2 = (h : Int) := by omega
      rw [hq]
      clear hq hh
      cases hc : decide (C < 0)
      all_goals
        go_region_held3 (fun w' => (w'.cell? ⟨blk, h * 9, none⟩ = some (.slice y.A y.pt.labels.length y.c) ∧ w'.cell? ⟨blk, h * 9 + 1, none⟩ = some (.int .i64 (y.pt.role : Int)) ∧ w'.cell? ⟨blk, h * 9 + 2, none⟩ = some (.bool y.pt.inf) ∧ w'.cell? ⟨blk, h * 9 + 3, none⟩ = some (.int .i64 y.pt.bM) ∧ w'.cell? ⟨blk, h * 9 + 4, none⟩ = some (.int .i64 (y.pt.bS : Int)) ∧ w'.cell? ⟨blk, h * 9 + 5, none⟩ = some (.int .i64 y.pt.vM) ∧ w'.cell? ⟨blk, h * 9 + 6, none⟩ = some (.int .i64 (y.pt.vS : Int)) ∧ w'.cell? ⟨blk, h * 9 + 7, none⟩ = some (.bool y.pt.timed) ∧ w'.cell? ⟨blk, h * 9 + 8, none⟩ = some (.int .i64 y.pt.time)) ∧ (w'.cell? ⟨blk, m * 9, none⟩ = some (.slice x.A x.pt.labels.length x.c) ∧ w'.cell? ⟨blk, m * 9 + 1, none⟩ = some (.int .i64 (x.pt.role : Int)) ∧ w'.cell? ⟨blk, m * 9 + 2, none⟩ = some (.bool x.pt.inf) ∧ w'.cell? ⟨blk, m * 9 + 3, none⟩ = some (.int .i64 x.pt.bM) ∧ w'.cell? ⟨blk, m * 9 + 4, none⟩ = some (.int .i64 (x.pt.bS : Int)) ∧ w'.cell? ⟨blk, m * 9 + 5, none⟩ = some (.int .i64 x.pt.vM) ∧ w'.cell? ⟨blk, m * 9 + 6, none⟩ = some (.int .i64 (x.pt.vS : Int)) ∧ w'.cell? ⟨blk, m * 9 + 7, none⟩ = some (.bool x.pt.timed) ∧ w'.cell? ⟨blk, m * 9 + 8, none⟩ = some (.int .i64 x.pt.time)) ∧ PR w0 w' B blk cap d) (first | (with_reducible assumption) | (with_reducible exact hS0) | (exact hst _ HP.out.drew)) (first
          | (go_at_call 47; (with_reducible refine (hcmp _ (And.right (And.right (by with_reducible assumption)))).mono ?_); rintro en w5 ⟨rfl, hA5⟩; have S5 := hst _ (PR.call (And.right (And.right (by with_reducible assumption))) hA5)))
        rename_i hHeld
        obtain ⟨_, _, hY⟩ := hHeld
        go_wp2_with fail
      · first
          | exact ⟨⟨h + 1, j, by simp, rfl, by omega, by omega, hjb, Lib.hid hY, Lib.hid (fun y' _ hy' => by rw [show h + 1 - 1 - a = h - a by omega, HY.out] at hy'; injection hy' with hy'; subst hy'; rw [HLT.out]; exact hc), HR⟩, by (simp only [intOf]; omega)⟩
      · first
          | exact ⟨⟨i, h, rfl, rfl, hmi, hi1, by omega, Lib.hid hY, HL, Lib.hid (fun y' hy' => by rw [HY.out] at hy'; injection hy' with hy'; subst hy'; rw [HLT.out]; exact hc)⟩, by (simp only [intOf]; omega)⟩
    · have hltz : decide ((i : Int) < (j : Int)) = false := decide_eq_false (by omega)
      have e : i = j := by omega
      subst e
      obtain ⟨t, ht⟩ : ∃ t, t = i - a := ⟨_, rfl⟩
      have hit : i = a + t := by omega
      subst hit
      have htl : t ≤ Bs.length := by omega
      have hPa : a = P.length := HS.out.1
      have hmB : m = a + Bs.length := HS.out.2.1
      have HF := Lib.hid (show (∀ y, 0 < t → Bs[t - 1]? = some y → ltOf pcf x y = false) ∧ (∀ y, Bs[t]? = some y → ltOf pcf x y = true) from ⟨fun y h0 hy => HL.out y (by omega) (by rw [show a + t - 1 - a = t - 1 by omega]; exact hy), fun y hy => HR.out y (by rw [← ht]; exact hy)⟩)
      have H2 : Hid (PRl w0 wr B blk cap (P ++ (Bs.take Bs.length ++ x :: (Bs.drop Bs.length ++ S)))) := Lib.hid (by have := HP.out; rw [hd] at this; simpa [PRl] using this)
      have hsn : ∀ u, (P ++ (Bs.take u ++ x :: (Bs.drop u ++ S))).toArray.size = n := fun u => by
        have := HS.out
        simp only [List.size_toArray, List.length_append, List.length_cons, List.length_take, List.length_drop]; omega
      have HSN := Lib.hid hsn
      have HMB := Lib.hid hmB
      have hat : a + t ≤ n := by omega
      obtain ⟨z, hz⟩ : ∃ z, z = a + t := ⟨_, rfl⟩
      rw [← hz]
      have HZ := Lib.hid hz
      have HPA := Lib.hid hPa
      clear HL HR HP hdm hd hsn ht hmB hz hPa
      go_wp2_with fail
      go_loopw [17] (fun vk wr2 => ∃ u : Nat, Hid (vk = .int .i64 ((a + u : Nat) : Int)) ∧ t ≤ u ∧ u ≤ Bs.length ∧ Hid (PRl w0 wr2 B blk cap (P ++ (Bs.take u ++ x :: (Bs.drop u ++ S))))) (fun vk _ => (intOf vk).toNat)
      case atStart => exact ⟨Bs.length, Lib.hid (by rw [HMB.out]), htl, Nat.le_refl _, H2⟩
      case round =>
        obtain ⟨u, HV, htu, hub, HU⟩ := hrel
        clear H2
        have hv := HV.out
        clear HV
        obtain ⟨k, hk⟩ : ∃ k, k = a + u := ⟨_, rfl⟩
        rw [← hk] at hv
        subst hv
        by_cases hlu : t < u
        · obtain ⟨u', rfl⟩ : ∃ u', u = u' + 1 := ⟨u - 1, by omega⟩
          obtain ⟨kk, hkk⟩ : ∃ kk, kk = a + u' := ⟨_, rfl⟩
          have hk1 : k = kk + 1 := by omega
          subst hk1
          have hg : decide ((z : Int) < ((kk + 1 : Nat) : Int)) = true := decide_eq_true (by have := HZ.out; omega)
          have hg2 : decide ((z : Int) < (kk : Int) + 1) = true := decide_eq_true (by have := HZ.out; omega)
          have hg3 : decide (z < kk + 1) = true := decide_eq_true (by have := HZ.out; omega)
          obtain ⟨y, hy, hy1, hx1, hsw⟩ := step_left P Bs S x u' (by omega)
          have hsz2 := HSN.out (u' + 1)
          rw [← HPA.out, ← hkk] at hx1 hy1 hsw
          obtain ⟨y0, y1, y2, y3, y4, y5, y6, y7, y8⟩ : wr.cell? ⟨blk, kk * 9, none⟩ = some (.slice y.A y.pt.labels.length y.c) ∧ wr.cell? ⟨blk, kk * 9 + 1, none⟩ = some (.int .i64 (y.pt.role : Int)) ∧ wr.cell? ⟨blk, kk * 9 + 2, none⟩ = some (.bool y.pt.inf) ∧ wr.cell? ⟨blk, kk * 9 + 3, none⟩ = some (.int .i64 y.pt.bM) ∧ wr.cell? ⟨blk, kk * 9 + 4, none⟩ = some (.int .i64 (y.pt.bS : Int)) ∧ wr.cell? ⟨blk, kk * 9 + 5, none⟩ = some (.int .i64 y.pt.vM) ∧ wr.cell? ⟨blk, kk * 9 + 6, none⟩ = some (.int .i64 (y.pt.vS : Int)) ∧ wr.cell? ⟨blk, kk * 9 + 7, none⟩ = some (.bool y.pt.timed) ∧ wr.cell? ⟨blk, kk * 9 + 8, none⟩ = some (.int .i64 y.pt.time) := by have := PR.row HU.out (i := kk) (by rw [hsz2]; have := HS.out; omega); rwa [hy1] at this
          obtain ⟨x0, x1, x2, x3, x4, x5, x6, x7, x8⟩ : wr.cell? ⟨blk, (kk + 1) * 9, none⟩ = some (.slice x.A x.pt.labels.length x.c) ∧ wr.cell? ⟨blk, (kk + 1) * 9 + 1, none⟩ = some (.int .i64 (x.pt.role : Int)) ∧ wr.cell? ⟨blk, (kk + 1) * 9 + 2, none⟩ = some (.bool x.pt.inf) ∧ wr.cell? ⟨blk, (kk + 1) * 9 + 3, none⟩ = some (.int .i64 x.pt.bM) ∧ wr.cell? ⟨blk, (kk + 1) * 9 + 4, none⟩ = some (.int .i64 (x.pt.bS : Int)) ∧ wr.cell? ⟨blk, (kk + 1) * 9 + 5, none⟩ = some (.int .i64 x.pt.vM) ∧ wr.cell? ⟨blk, (kk + 1) * 9 + 6, none⟩ = some (.int .i64 (x.pt.vS : Int)) ∧ wr.cell? ⟨blk, (kk + 1) * 9 + 7, none⟩ = some (.bool x.pt.timed) ∧ wr.cell? ⟨blk, (kk + 1) * 9 + 8, none⟩ = some (.int .i64 x.pt.time) := by have := PR.row HU.out (i := kk + 1) (by rw [hsz2]; have := HS.out; omega); rwa [hx1] at this
          have fx0 := PR.fz HU.out ((kk + 1) * 9); have fx1 := PR.fz HU.out ((kk + 1) * 9 + 1); have fx2 := PR.fz HU.out ((kk + 1) * 9 + 2); have fx3 := PR.fz HU.out ((kk + 1) * 9 + 3); have fx4 := PR.fz HU.out ((kk + 1) * 9 + 4); have fx5 := PR.fz HU.out ((kk + 1) * 9 + 5); have fx6 := PR.fz HU.out ((kk + 1) * 9 + 6); have fx7 := PR.fz HU.out ((kk + 1) * 9 + 7); have fx8 := PR.fz HU.out ((kk + 1) * 9 + 8)
          have fy0 := PR.fz HU.out (kk * 9); have fy1 := PR.fz HU.out (kk * 9 + 1); have fy2 := PR.fz HU.out (kk * 9 + 2); have fy3 := PR.fz HU.out (kk * 9 + 3); have fy4 := PR.fz HU.out (kk * 9 + 4); have fy5 := PR.fz HU.out (kk * 9 + 5); have fy6 := PR.fz HU.out (kk * 9 + 6); have fy7 := PR.fz HU.out (kk * 9 + 7); have fy8 := PR.fz HU.out (kk * 9 + 8)
          have hY2 := PR.swap HU.out (i := kk + 1) (j := kk) (by rw [hsz2]; have := HS.out; omega) (by rw [hsz2]; have := HS.out; omega) x y hx1 hy1
          rw [hsw] at hY2
          have HY2 : Hid (PRl _ _ _ _ _ _) := Lib.hid hY2.drew
          have wk : IntKind.i64.wrap (kk : Int) = (kk : Int) := IntWalk.i64_in _ (by have := HS.out; omega)
          have jz : (kk : Int) < (n : Int) := by have := HS.out; omega
          have jz1 : (kk : Int) + 1 < (n : Int) := by have := HS.out; omega
          have p1 : (0 : Int) ≤ (kk : Int) + 1 := by omega
          have p0 : (0 : Int) ≤ (kk : Int) := by omega
          have HK := Lib.hid hkk
          clear hY2 hsw hx1 hy1 hy hk hkk
          go_upto_region 23 with (fail)
          go_region
          first
            | (go_wp2_with fail
               exact ⟨⟨u', Lib.hid (by have := HK.out; rw [← this]), by omega, by omega, HY2⟩, by (simp only [intOf]; omega)⟩)
        · have hg : decide ((z : Int) < (k : Int)) = false := decide_eq_false (by have := HZ.out; omega)
          have hg3 : decide (z < k) = false := decide_eq_false (by have := HZ.out; omega)
          have e : u = t := by omega
          have HF1 := HF.out.1
          have HF2 := HF.out.2
          have HU2 := HU.out
          rw [e] at HU2
          clear hk
          go_wp2_with fail
          first
            | exact ⟨rfl, t, htl, HF1, HF2, HU2⟩
            | (go_end0; exact ⟨rfl, t, htl, HF1, HF2, HU2⟩)
            | exact bodyPost_ret (v := .tuple #[]) (by first | rfl | simp [results, Tryz.results133, go_sem]) rfl ⟨rfl, t, htl, HF1, HF2, HU2⟩
end
section
open Go.RowKit Go.Sort Go.Shelf
theorem pcf_weak : WeakO (ltOf pcf) where
  asym x y h := by
    unfold ltOf at *
    rw [decide_eq_true_eq] at h
    exact decide_eq_false (by rw [pcf_cmp.swap x y]; omega)
  ntr x y z h1 h2 := by
    unfold ltOf at *
    rw [decide_eq_false_iff_not] at *
    have q1 : pcf x y ≤ 0 := by rw [pcf_cmp.swap y x]; omega
    have q2 : pcf y z ≤ 0 := by rw [pcf_cmp.swap z y]; omega
    have := pcf_cmp.trans x y z q1 q2
    rw [pcf_cmp.swap x z]; omega
/-- What symMerge does at two rows that rise. -/
def SymC (w0 : World) (B blk cap n : Nat) (P A Bs S : List VPnt) : Prop := ∀ w : World, PRl w0 w B blk cap (P ++ (A ++ (Bs ++ S))) →
    Calls Tryz.prog 133 #[.slice (some ⟨blk, 0, none⟩) n cap, .int .i64 ((P.length : Nat) : Int), .int .i64 ((P.length + A.length : Nat) : Int), .int .i64 ((P.length + A.length + Bs.length : Nat) : Int), .func (.func 47) #[] #[]] w fun e w' => e = .returned (.tuple #[]) ∧ ∃ C, C.Perm (A ++ Bs) ∧ Rises (ltOf pcf) C ∧ PRl w0 w' B blk cap (P ++ (C ++ S))
theorem take_app {α : Type} (l : List α) (i : Nat) (r : List α) : l.take i ++ (l.drop i ++ r) = l ++ r := by rw [← List.append_assoc, List.take_append_drop]
theorem rises_at_last {A : List VPnt} (hA : Rises (ltOf pcf) A) {t : Nat} {x : VPnt} (ht : t ≤ A.length) (h : ∀ y, 0 < t → A[t - 1]? = some y → ltOf pcf x y = false) : ∀ y ∈ A.take t, ltOf pcf x y = false := fun y hy => by
  obtain ⟨k, hk, e⟩ := List.getElem_of_mem hy
  rw [List.length_take] at hk
  rw [List.getElem_take] at e
  have h1 : A[k]? = some y := by rw [List.getElem?_eq_getElem (by omega), e]
  have h2 : A[t - 1]? = some A[t - 1] := List.getElem?_eq_getElem (by omega)
  exact pcf_weak.ntr _ _ _ (rises_le pcf_weak hA h1 h2 (by omega)) (h _ (by omega) h2)
theorem rises_at_first {A : List VPnt} (hA : Rises (ltOf pcf) A) {t : Nat} {x : VPnt} (h : ∀ y, A[t]? = some y → ltOf pcf y x = false) : ∀ y ∈ A.drop t, ltOf pcf y x = false := fun y hy => by
  obtain ⟨k, hk, e⟩ := List.getElem_of_mem hy
  rw [List.length_drop] at hk
  rw [List.getElem_drop] at e
  have h1 : A[t + k]? = some y := by rw [List.getElem?_eq_getElem (by omega), e]
  have h2 : A[t]? = some A[t] := List.getElem?_eq_getElem (by omega)
  exact pcf_weak.ntr _ _ _ (h _ h2) (rises_le pcf_weak hA h2 h1 (by omega))
/-- One point on the left. -/
theorem symOneA (w0 : World) (B blk cap n : Nat) (P Bs S : List VPnt) (x : VPnt) (hn : n = P.length + (1 + (Bs.length + S.length))) (hB0 : 0 < Bs.length) (hsz : n ≤ 1048576) (hB : Rises (ltOf pcf) Bs) : SymC w0 B blk cap n P [x] Bs S := fun w h => by
  refine (psymA_any w0 B blk cap P.length (P.length + 1 + Bs.length) n P Bs S x w h rfl (by omega) hn hB0 hsz).mono fun e w' hh => ⟨hh.1, ?_⟩
  obtain ⟨t, ht, h1, h2, h3⟩ := hh.2
  refine ⟨Bs.take t ++ x :: Bs.drop t, ?_, ?_, by simpa using h3⟩
  · have e : (Bs.take t ++ x :: Bs.drop t).Perm (x :: (Bs.take t ++ Bs.drop t)) := List.perm_middle
    rw [List.take_append_drop] at e
    exact e
  · unfold Rises
    rw [List.pairwise_append]
    refine ⟨rises_take hB t, List.pairwise_cons.2 ⟨rises_at_first hB h2, rises_drop hB t⟩, fun a ha b hb => ?_⟩
    obtain ⟨k, hk, e⟩ := List.getElem_of_mem ha
    rw [List.length_take] at hk
    rw [List.getElem_take] at e
    have g1 : Bs[k]? = some a := by rw [List.getElem?_eq_getElem (by omega), e]
    have g2 : Bs[t - 1]? = some Bs[t - 1] := List.getElem?_eq_getElem (by omega)
    have hax : ltOf pcf x a = false := pcf_weak.ntr _ _ _ (rises_le pcf_weak hB g1 g2 (by omega)) (pcf_weak.asym _ _ (h1 _ (by omega) g2))
    rcases List.mem_cons.1 hb with rfl | hb
    · exact hax
    · exact pcf_weak.ntr _ _ _ hax (rises_at_first hB h2 b hb)
/-- One point on the right. -/
theorem symOneB (w0 : World) (B blk cap n : Nat) (P A S : List VPnt) (x : VPnt) (hn : n = P.length + (1 + (A.length + S.length))) (hA0 : 1 < A.length) (hsz : n ≤ 1048576) (hA : Rises (ltOf pcf) A) : SymC w0 B blk cap n P A [x] S := fun w h => by
  refine (psymB_any w0 B blk cap P.length (P.length + A.length + 1) n P A S x w h rfl (by omega) hn hA0 hsz).mono fun e w' hh => ⟨hh.1, ?_⟩
  obtain ⟨t, ht, h1, h2, h3⟩ := hh.2
  refine ⟨A.take t ++ x :: A.drop t, ?_, ?_, by simpa using h3⟩
  · have e : (A.take t ++ x :: A.drop t).Perm (x :: (A.take t ++ A.drop t)) := List.perm_middle
    rw [List.take_append_drop] at e
    exact e.trans (List.perm_append_comm (l₁ := [x]) (l₂ := A))
  · have h2' : ∀ y, A[t]? = some y → ltOf pcf y x = false := fun y hy => pcf_weak.asym _ _ (h2 y hy)
    unfold Rises
    rw [List.pairwise_append]
    refine ⟨rises_take hA t, List.pairwise_cons.2 ⟨rises_at_first hA h2', rises_drop hA t⟩, fun a ha b hb => ?_⟩
    have hax := rises_at_last hA ht h1 a ha
    rcases List.mem_cons.1 hb with rfl | hb
    · exact hax
    · exact pcf_weak.ntr _ _ _ hax (rises_at_first hA h2' b hb)
set_option maxRecDepth 100000 in
set_option maxHeartbeats 25600000 in
theorem symStep (w0 : World) (B blk cap n : Nat) (P A Bs S : List VPnt) (hn : n = P.length + (A.length + (Bs.length + S.length))) (hA2 : 2 ≤ A.length) (hB2 : 2 ≤ Bs.length) (hsz : n ≤ 1048576) (hA : Rises (ltOf pcf) A) (hB : Rises (ltOf pcf) Bs)
    (hrec : ∀ P' A' B' S', A'.length + B'.length < A.length + Bs.length → 0 < A'.length → 0 < B'.length → Rises (ltOf pcf) A' → Rises (ltOf pcf) B' → n = P'.length + (A'.length + (B'.length + S'.length)) → SymC w0 B blk cap n P' A' B' S') : SymC w0 B blk cap n P A Bs S := fun w h => by
  have H := Lib.hid h
  have HREC := Lib.hid hrec
  have HRA := Lib.hid hA
  have HRB := Lib.hid hB
  clear h hrec hA hB
  obtain ⟨a, ha⟩ : ∃ a, P.length = a := ⟨_, rfl⟩
  obtain ⟨m, hm⟩ : ∃ m, P.length + A.length = m := ⟨_, rfl⟩
  obtain ⟨b, hb⟩ : ∃ b, P.length + A.length + Bs.length = b := ⟨_, rfl⟩
  rw [hb, hm, ha]
  obtain ⟨mid, hmid⟩ : ∃ mid, mid = (a + b) / 2 := ⟨_, rfl⟩
  obtain ⟨nn, hnn⟩ : ∃ nn, nn = mid + m := ⟨_, rfl⟩
  obtain ⟨q1, hq1⟩ : ∃ q1, q1 = m - a := ⟨_, rfl⟩
  obtain ⟨q2, hq2⟩ : ∃ q2, q2 = b - m := ⟨_, rfl⟩
  have HS := Lib.hid (show P.length = a ∧ A.length = m - a ∧ Bs.length = b - m ∧ S.length = n - b ∧ a + 2 ≤ m ∧ m + 2 ≤ b ∧ b ≤ n ∧ a < mid ∧ mid < b ∧ nn = mid + m ∧ 2 * mid ≤ a + b ∧ a + b ≤ 2 * mid + 1 by omega)
  have w1 : IntKind.i64.wrap ((m : Int) - (a : Int)) = (q1 : Int) := by rw [IntWalk.i64_in _ (by omega)]; omega
  have w1a : ((q1 : Int) == 1) = false := by rw [beq_eq_false_iff_ne]; omega
  have w2 : IntKind.i64.wrap ((b : Int) - (m : Int)) = (q2 : Int) := by rw [IntWalk.i64_in _ (by omega)]; omega
  have w2a : ((q2 : Int) == 1) = false := by rw [beq_eq_false_iff_ne]; omega
  have w3 : IntKind.i64.wrap ((a : Int) + (b : Int)) = (a : Int) + (b : Int) := IntWalk.i64_in _ (by omega)
  have w4 : IntKind.i64.wrap ((mid : Int) + (m : Int)) = (nn : Int) := by rw [IntWalk.i64_in _ (by omega)]; omega
  obtain ⟨d, hd⟩ : ∃ d, d = (P ++ (A ++ (Bs ++ S))).toArray := ⟨_, rfl⟩
  have HD := Lib.hid hd
  have H : Hid (PR w0 w B blk cap d) := by rw [hd]; exact H
  have hds : d.size = n := by rw [hd]; simp; omega
  have hdA : Hid (∀ u y, A[u]? = some y → d[a + u]! = y) := Lib.hid (fun u y hy => by
    obtain ⟨hu, e⟩ := List.getElem?_eq_some_iff.1 hy
    rw [hd, getElem!_pos _ _ (by simp; omega), List.getElem_toArray, List.getElem_append_right (by omega)]
    have : a + u - P.length = u := by omega
    simp only [this]
    rw [List.getElem_append_left hu, e])
  have hdB : Hid (∀ u y, Bs[u]? = some y → d[m + u]! = y) := Lib.hid (fun u y hy => by
    obtain ⟨hu, e⟩ := List.getElem?_eq_some_iff.1 hy
    rw [hd, getElem!_pos _ _ (by simp; omega), List.getElem_toArray, List.getElem_append_right (by omega), List.getElem_append_right (by omega)]
    have : m + u - P.length - A.length = u := by omega
    simp only [this]
    rw [List.getElem_append_left hu, e])
  have hqm : wrap64 (IntKind.u64.wrap ((a : Int) + (b : Int)) / 2) = (mid : Int) := by
    have e1 : IntKind.u64.wrap ((a : Int) + (b : Int)) = (a : Int) + (b : Int) := by rw [IntKind.wrap_u64]; omega
    rw [e1]
    rw [IntWalk.wrap64_in _ (by omega)]; omega
  have HQM := Lib.hid hqm
  clear ha hm hb hmid hnn hq1 hq2 hn hA2 hB2 hd hqm
  go_enter Tryz.func133, Tryz.ntmps133
  go_upto_region 25 with (fail)
  rw [HQM.out]
  obtain ⟨lo, hi, hl1, hl2, hl3, hl4, hl5, hl6, hl7, hl8⟩ : ∃ lo hi : Nat, a ≤ lo ∧ lo ≤ hi ∧ hi ≤ m ∧ hi ≤ mid ∧ nn ≤ lo + b ∧ (lo = a ∨ lo + b = nn) ∧ (hi = m ∨ hi = mid) ∧ ((mid < m ∧ lo + b = nn ∧ hi = mid) ∨ (m ≤ mid ∧ lo = a ∧ hi = m)) := by
    have := HS.out
    by_cases hc : mid < m
    · exact ⟨nn - b, mid, by omega, by omega, by omega, by omega, by omega, by omega, by omega, .inl ⟨hc, by omega, rfl⟩⟩
    · exact ⟨a, m, by omega, by omega, by omega, by omega, by omega, by omega, by omega, .inr ⟨by omega, rfl, rfl⟩⟩
  have HL := Lib.hid (And.intro hl1 (And.intro hl2 (And.intro hl3 (And.intro hl4 (And.intro hl5 (And.intro hl6 hl7))))))
  have HL8 := Lib.hid hl8
  clear hl1 hl2 hl3 hl4 hl5 hl6 hl7 hl8
  obtain ⟨cb, hcb⟩ : ∃ cb, decide ((mid : Int) < (m : Int)) = cb := ⟨_, rfl⟩
  have hcbn : decide (mid < m) = cb := by rw [← hcb]; simp
  go_upto_if 140 with (fail)
  have HCB := Lib.hid hcb
  clear hcb hcbn
  go_cut [20, 21] from 141 to 146 (fun s r wx => s = .int .i64 (lo : Int) ∧ r = .int .i64 (hi : Int) ∧ wx = w)
  case first =>
    cases cb
    · have hc0 := of_decide_eq_false HCB.out
      have HE : Hid (lo = a ∧ hi = m) := Lib.hid (by rcases HL8.out with ⟨h1, h2, h3⟩ | ⟨h1, h2, h3⟩; omega; exact ⟨h2, h3⟩)
      clear hc0
      go_wp2_with fail
      go_meet
      exact ⟨by rw [HE.out.1], by rw [HE.out.2], rfl⟩
    · have hc0 := of_decide_eq_true HCB.out
      have HE : Hid (lo + b = nn ∧ hi = mid) := Lib.hid (by rcases HL8.out with ⟨h1, h2, h3⟩ | ⟨h1, h2, h3⟩; exact ⟨h2, h3⟩; omega)
      have e2 : IntKind.i64.wrap ((nn : Int) - (b : Int)) = (lo : Int) := by have := HE.out.1; rw [IntWalk.i64_in _ (by have := HS.out; omega)]; omega
      clear hc0
      go_wp2_with fail
      go_meet
      exact ⟨rfl, by rw [HE.out.2], rfl⟩
  case rest =>
  obtain ⟨rfl, rfl, hwc⟩ := hcut
  rw [hwc]
  clear hwc wc
  obtain ⟨p, hp⟩ : ∃ p, p = nn - 1 := ⟨_, rfl⟩
  have w6 : IntKind.i64.wrap ((nn : Int) - 1) = (p : Int) := by rw [IntWalk.i64_in _ (by have := HS.out; omega)]; have := HS.out; omega
  have HP1 := Lib.hid hp
  clear hp
  go_wp2_with fail
  go_loopw [20, 21] (fun vi vj wr => ∃ (i j : Nat), vi = .int .i64 (i : Int) ∧ vj = .int .i64 (j : Int) ∧ lo ≤ i ∧ i ≤ j ∧ j ≤ hi ∧ Hid (PR w0 wr B blk cap d) ∧ Hid (∀ x y, lo < i → A[i - 1 - a]? = some y → Bs[nn - i - m]? = some x → ltOf pcf x y = false) ∧ Hid (∀ x y, j < hi → A[j - a]? = some y → Bs[nn - 1 - j - m]? = some x → ltOf pcf x y = true)) (fun vi vj _ => (intOf vj).toNat - (intOf vi).toNat)
  case atStart => exact ⟨lo, hi, rfl, rfl, Nat.le_refl _, HL.out.2.1, Nat.le_refl _, H, Lib.hid (fun x y h => by omega), Lib.hid (fun x y h => by omega)⟩
  case round =>
    obtain ⟨i, j, rfl, rfl, hil, hij, hjh, HP, HLo, HHi⟩ := hrel
    clear H
    by_cases hlt : i < j
    · have hltz : decide ((i : Int) < (j : Int)) = true := decide_eq_true (by omega)
      have hjn : j ≤ n := by have := HL.out; have := HS.out; omega
      have wij : IntKind.i64.wrap ((i : Int) + (j : Int)) = (i : Int) + (j : Int) := IntWalk.i64_in _ (by omega)
      obtain ⟨h, hh⟩ : ∃ h, h = (i + j) / 2 := ⟨_, rfl⟩
      have hi1 : i ≤ h := by omega
      have hj1 : h < j := by omega
      obtain ⟨kk, hkk⟩ : ∃ kk, kk = p - h := ⟨_, rfl⟩
      have hfac : a ≤ h ∧ h < m ∧ m ≤ kk ∧ kk < b ∧ h ≤ p ∧ kk - m = nn - 1 - h - m ∧ p < 4194304 := by have := HL.out; have := HS.out; have := HP1.out; omega
      obtain ⟨f1, f2, f3, f4, f5, f6, f7⟩ := hfac
      have hua : h - a < A.length := by have := HS.out; omega
      have hub : kk - m < Bs.length := by have := HS.out; omega
      obtain ⟨y, hy⟩ : ∃ y, A[h - a]? = some y := ⟨_, List.getElem?_eq_getElem hua⟩
      obtain ⟨x, hx⟩ : ∃ x, Bs[kk - m]? = some x := ⟨_, List.getElem?_eq_getElem hub⟩
      have hdh : d[h]! = y := by have := hdA.out _ y hy; rwa [show a + (h - a) = h by omega] at this
      have hdk : d[kk]! = x := by have := hdB.out _ x hx; rwa [show m + (kk - m) = kk by omega] at this
      have hbn : b ≤ n := by have := HS.out; omega
      have w7 : IntKind.i64.wrap ((p : Int) - (h : Int)) = (kk : Int) := by rw [IntWalk.i64_in _ (by omega)]; omega
      have hS0 : (wr.cell? ⟨blk, kk * 9, none⟩ = some (.slice x.A x.pt.labels.length x.c) ∧ wr.cell? ⟨blk, kk * 9 + 1, none⟩ = some (.int .i64 (x.pt.role : Int)) ∧ wr.cell? ⟨blk, kk * 9 + 2, none⟩ = some (.bool x.pt.inf) ∧ wr.cell? ⟨blk, kk * 9 + 3, none⟩ = some (.int .i64 x.pt.bM) ∧ wr.cell? ⟨blk, kk * 9 + 4, none⟩ = some (.int .i64 (x.pt.bS : Int)) ∧ wr.cell? ⟨blk, kk * 9 + 5, none⟩ = some (.int .i64 x.pt.vM) ∧ wr.cell? ⟨blk, kk * 9 + 6, none⟩ = some (.int .i64 (x.pt.vS : Int)) ∧ wr.cell? ⟨blk, kk * 9 + 7, none⟩ = some (.bool x.pt.timed) ∧ wr.cell? ⟨blk, kk * 9 + 8, none⟩ = some (.int .i64 x.pt.time)) ∧ (wr.cell? ⟨blk, h * 9, none⟩ = some (.slice y.A y.pt.labels.length y.c) ∧ wr.cell? ⟨blk, h * 9 + 1, none⟩ = some (.int .i64 (y.pt.role : Int)) ∧ wr.cell? ⟨blk, h * 9 + 2, none⟩ = some (.bool y.pt.inf) ∧ wr.cell? ⟨blk, h * 9 + 3, none⟩ = some (.int .i64 y.pt.bM) ∧ wr.cell? ⟨blk, h * 9 + 4, none⟩ = some (.int .i64 (y.pt.bS : Int)) ∧ wr.cell? ⟨blk, h * 9 + 5, none⟩ = some (.int .i64 y.pt.vM) ∧ wr.cell? ⟨blk, h * 9 + 6, none⟩ = some (.int .i64 (y.pt.vS : Int)) ∧ wr.cell? ⟨blk, h * 9 + 7, none⟩ = some (.bool y.pt.timed) ∧ wr.cell? ⟨blk, h * 9 + 8, none⟩ = some (.int .i64 y.pt.time)) ∧ PR w0 wr B blk cap d := ⟨by rw [← hdk]; exact HP.out.row (by omega), by rw [← hdh]; exact HP.out.row (by omega), HP.out⟩
      have hcmp : ∀ W, PR w0 W B blk cap d → Calls Tryz.prog 47 #[.agg #[.slice x.A x.pt.labels.length x.c, .int .i64 (x.pt.role : Int), .bool x.pt.inf, .int .i64 x.pt.bM, .int .i64 (x.pt.bS : Int), .int .i64 x.pt.vM, .int .i64 (x.pt.vS : Int), .bool x.pt.timed, .int .i64 x.pt.time], .agg #[.slice y.A y.pt.labels.length y.c, .int .i64 (y.pt.role : Int), .bool y.pt.inf, .int .i64 y.pt.bM, .int .i64 (y.pt.bS : Int), .int .i64 y.pt.vM, .int .i64 (y.pt.vS : Int), .bool y.pt.timed, .int .i64 y.pt.time]] W fun e w2 => e = .returned (.int .i64 (pcf x y)) ∧ Aw [] W w2 := fun W hW => cmp_pr (i := kk) (j := h) (by omega) (by omega) x y hdk hdh hW
      have hst : ∀ W, PR w0 W B blk cap d → (W.cell? ⟨blk, kk * 9, none⟩ = some (.slice x.A x.pt.labels.length x.c) ∧ W.cell? ⟨blk, kk * 9 + 1, none⟩ = some (.int .i64 (x.pt.role : Int)) ∧ W.cell? ⟨blk, kk * 9 + 2, none⟩ = some (.bool x.pt.inf) ∧ W.cell? ⟨blk, kk * 9 + 3, none⟩ = some (.int .i64 x.pt.bM) ∧ W.cell? ⟨blk, kk * 9 + 4, none⟩ = some (.int .i64 (x.pt.bS : Int)) ∧ W.cell? ⟨blk, kk * 9 + 5, none⟩ = some (.int .i64 x.pt.vM) ∧ W.cell? ⟨blk, kk * 9 + 6, none⟩ = some (.int .i64 (x.pt.vS : Int)) ∧ W.cell? ⟨blk, kk * 9 + 7, none⟩ = some (.bool x.pt.timed) ∧ W.cell? ⟨blk, kk * 9 + 8, none⟩ = some (.int .i64 x.pt.time)) ∧ (W.cell? ⟨blk, h * 9, none⟩ = some (.slice y.A y.pt.labels.length y.c) ∧ W.cell? ⟨blk, h * 9 + 1, none⟩ = some (.int .i64 (y.pt.role : Int)) ∧ W.cell? ⟨blk, h * 9 + 2, none⟩ = some (.bool y.pt.inf) ∧ W.cell? ⟨blk, h * 9 + 3, none⟩ = some (.int .i64 y.pt.bM) ∧ W.cell? ⟨blk, h * 9 + 4, none⟩ = some (.int .i64 (y.pt.bS : Int)) ∧ W.cell? ⟨blk, h * 9 + 5, none⟩ = some (.int .i64 y.pt.vM) ∧ W.cell? ⟨blk, h * 9 + 6, none⟩ = some (.int .i64 (y.pt.vS : Int)) ∧ W.cell? ⟨blk, h * 9 + 7, none⟩ = some (.bool y.pt.timed) ∧ W.cell? ⟨blk, h * 9 + 8, none⟩ = some (.int .i64 y.pt.time)) ∧ PR w0 W B blk cap d := fun W hW => ⟨by rw [← hdk]; exact hW.row (by omega), by rw [← hdh]; exact hW.row (by omega), hW⟩
      have HLT : Hid (ltOf pcf x y = decide (pcf x y < 0)) := Lib.hid rfl
      have HX := Lib.hid hx
      have HY := Lib.hid hy
      have jz : (h : Int) < (n : Int) := by omega
      have jz1 : (kk : Int) < (n : Int) := by omega
      have hwp : IntKind.i64.wrap ((h : Int) + 1) = (h : Int) + 1 := IntWalk.i64_in _ (by omega)
      have hqm : ((i : Int) + (j : Int)) / 2 = (h : Int) := by omega
      have HQ2 := Lib.hid hqm
      have HF6 := Lib.hid f6
      clear hx hy hdh hdk hqm hh hkk f6
      generalize pcf x y = C at *
      go_upto_region 35 with (fail)
      rw [HQ2.out]
      cases hc : decide (C < 0)
      all_goals
        go_region_held3 (fun w' => (w'.cell? ⟨blk, kk * 9, none⟩ = some (.slice x.A x.pt.labels.length x.c) ∧ w'.cell? ⟨blk, kk * 9 + 1, none⟩ = some (.int .i64 (x.pt.role : Int)) ∧ w'.cell? ⟨blk, kk * 9 + 2, none⟩ = some (.bool x.pt.inf) ∧ w'.cell? ⟨blk, kk * 9 + 3, none⟩ = some (.int .i64 x.pt.bM) ∧ w'.cell? ⟨blk, kk * 9 + 4, none⟩ = some (.int .i64 (x.pt.bS : Int)) ∧ w'.cell? ⟨blk, kk * 9 + 5, none⟩ = some (.int .i64 x.pt.vM) ∧ w'.cell? ⟨blk, kk * 9 + 6, none⟩ = some (.int .i64 (x.pt.vS : Int)) ∧ w'.cell? ⟨blk, kk * 9 + 7, none⟩ = some (.bool x.pt.timed) ∧ w'.cell? ⟨blk, kk * 9 + 8, none⟩ = some (.int .i64 x.pt.time)) ∧ (w'.cell? ⟨blk, h * 9, none⟩ = some (.slice y.A y.pt.labels.length y.c) ∧ w'.cell? ⟨blk, h * 9 + 1, none⟩ = some (.int .i64 (y.pt.role : Int)) ∧ w'.cell? ⟨blk, h * 9 + 2, none⟩ = some (.bool y.pt.inf) ∧ w'.cell? ⟨blk, h * 9 + 3, none⟩ = some (.int .i64 y.pt.bM) ∧ w'.cell? ⟨blk, h * 9 + 4, none⟩ = some (.int .i64 (y.pt.bS : Int)) ∧ w'.cell? ⟨blk, h * 9 + 5, none⟩ = some (.int .i64 y.pt.vM) ∧ w'.cell? ⟨blk, h * 9 + 6, none⟩ = some (.int .i64 (y.pt.vS : Int)) ∧ w'.cell? ⟨blk, h * 9 + 7, none⟩ = some (.bool y.pt.timed) ∧ w'.cell? ⟨blk, h * 9 + 8, none⟩ = some (.int .i64 y.pt.time)) ∧ PR w0 w' B blk cap d) (first | (with_reducible assumption) | (with_reducible exact hS0) | (exact hst _ HP.out.drew)) (first
          | (go_at_call 47; (with_reducible refine (hcmp _ (And.right (And.right (by with_reducible assumption)))).mono ?_); rintro en w5 ⟨rfl, hA5⟩; have S5 := hst _ (PR.call (And.right (And.right (by with_reducible assumption))) hA5)))
        rename_i hHeld
        obtain ⟨_, _, hY⟩ := hHeld
        go_wp2_with fail
      · first
          | exact ⟨⟨h + 1, j, by simp, rfl, by omega, by omega, hjh, Lib.hid hY, Lib.hid (fun x' y' _ hy' hx' => by rw [show h + 1 - 1 - a = h - a by omega, HY.out] at hy'; injection hy' with hy'; rw [show nn - (h + 1) - m = kk - m by have := HF6.out; omega, HX.out] at hx'; injection hx' with hx'; subst hy'; subst hx'; rw [HLT.out]; exact hc), HHi⟩, by (simp only [intOf]; omega)⟩
      · first
          | exact ⟨⟨i, h, rfl, rfl, hil, hi1, by omega, Lib.hid hY, HLo, Lib.hid (fun x' y' _ hy' hx' => by rw [HY.out] at hy'; injection hy' with hy'; rw [← HF6.out, HX.out] at hx'; injection hx' with hx'; subst hy'; subst hx'; rw [HLT.out]; exact hc)⟩, by (simp only [intOf]; omega)⟩
    · have hltz : decide ((i : Int) < (j : Int)) = false := decide_eq_false (by omega)
      obtain rfl : i = j := by omega
      obtain ⟨en, hen⟩ : ∃ en, en = nn - i := ⟨_, rfl⟩
      have hfac : a ≤ i ∧ i ≤ m ∧ i ≤ mid ∧ m ≤ en ∧ mid ≤ en ∧ en ≤ b ∧ i ≤ nn ∧ mid - i = en - m ∧ en - mid = m - i := by have := HL.out; have := HS.out; omega
      obtain ⟨f1, f2, f3, f4, f5, f6, f7, f8, f9⟩ := hfac
      have w8 : IntKind.i64.wrap ((nn : Int) - (i : Int)) = (en : Int) := by rw [IntWalk.i64_in _ (by have := HS.out; omega)]; omega
      obtain ⟨i0, hi0⟩ : ∃ i0, i0 = i - a := ⟨_, rfl⟩
      obtain ⟨j0, hj0⟩ : ∃ j0, j0 = en - m := ⟨_, rfl⟩
      have HI0 := Lib.hid (show i0 ≤ A.length ∧ j0 ≤ Bs.length by have := HS.out; omega)
      have HM1 : Hid (∀ x y, 0 < i0 → A[i0 - 1]? = some x → Bs[j0]? = some y → ltOf pcf y x = false) := Lib.hid (fun x y h0 hx hy => by
        have hj' : j0 < Bs.length := (List.getElem?_eq_some_iff.1 hy).1
        refine HLo.out y x (by have := HL.out; have := HS.out; omega) (by rw [show i - 1 - a = i0 - 1 by omega]; exact hx) (by rw [show nn - i - m = j0 by omega]; exact hy))
      have HM2 : Hid (∀ x y, 0 < j0 → Bs[j0 - 1]? = some x → A[i0]? = some y → ltOf pcf x y = true) := Lib.hid (fun x y h0 hx hy => by
        have hj' : i0 < A.length := (List.getElem?_eq_some_iff.1 hy).1
        refine HHi.out x y (by have := HL.out; have := HS.out; omega) (by rw [show i - a = i0 by omega]; exact hy) (by rw [show nn - 1 - i - m = j0 - 1 by omega]; exact hx))
      obtain ⟨A1, hA1⟩ : ∃ A1, A1 = A.take i0 := ⟨_, rfl⟩
      obtain ⟨A2, hA2⟩ : ∃ A2, A2 = A.drop i0 := ⟨_, rfl⟩
      obtain ⟨B1, hB1⟩ : ∃ B1, B1 = Bs.take j0 := ⟨_, rfl⟩
      obtain ⟨B2, hB2⟩ : ∃ B2, B2 = Bs.drop j0 := ⟨_, rfl⟩
      have HLN := Lib.hid (show P.length = a ∧ A1.length = i - a ∧ A2.length = m - i ∧ B1.length = en - m ∧ B2.length = b - en ∧ S.length = n - b ∧ b ≤ n by
        have := HS.out
        rw [hA1, hA2, hB1, hB2, List.length_take, List.length_take, List.length_drop, List.length_drop]; omega)
      have HRI := Lib.hid (show Rises (ltOf pcf) A1 ∧ Rises (ltOf pcf) A2 ∧ Rises (ltOf pcf) B1 ∧ Rises (ltOf pcf) B2 by
        rw [hA1, hA2, hB1, hB2]
        exact ⟨rises_take HRA.out _, rises_drop HRA.out _, rises_take HRB.out _, rises_drop HRB.out _⟩)
      have H1 : Hid (PRl w0 wr B blk cap (P ++ (A1 ++ (A2 ++ (B1 ++ (B2 ++ S)))))) := Lib.hid (by
        rw [hA1, hA2, hB1, hB2, take_app, take_app]
        have := HP.out
        rw [HD.out] at this
        exact this)
      have HFIN : Hid (∀ C D, C.Perm (A1 ++ B1) → D.Perm (A2 ++ B2) → Rises (ltOf pcf) C → Rises (ltOf pcf) D → (C ++ D).Perm (A ++ Bs) ∧ Rises (ltOf pcf) (C ++ D)) := Lib.hid (fun C D pC pD rC rD => by
        rw [hA1, hB1] at pC
        rw [hA2, hB2] at pD
        exact merge_two pcf_weak HRA.out HRB.out HI0.out.1 HI0.out.2 HM1.out HM2.out pC pD rC rD)
      have HLS := Lib.hid (show A1.length + B1.length < A.length + Bs.length ∧ A2.length + B2.length < A.length + Bs.length by have := HS.out; have := HLN.out; omega)
      have hFC := Lib.hid (And.intro f1 (And.intro f2 (And.intro f3 (And.intro f4 (And.intro f5 (And.intro f6 (And.intro f8 f9)))))))
      obtain ⟨b1, hb1⟩ : ∃ b1, decide ((i : Int) < (m : Int)) = b1 := ⟨_, rfl⟩
      obtain ⟨b2, hb2⟩ : ∃ b2, decide ((m : Int) < (en : Int)) = b2 := ⟨_, rfl⟩
      obtain ⟨b3, hb3⟩ : ∃ b3, decide ((a : Int) < (i : Int)) = b3 := ⟨_, rfl⟩
      obtain ⟨b4, hb4⟩ : ∃ b4, decide ((i : Int) < (mid : Int)) = b4 := ⟨_, rfl⟩
      obtain ⟨b5, hb5⟩ : ∃ b5, decide ((mid : Int) < (en : Int)) = b5 := ⟨_, rfl⟩
      obtain ⟨b6, hb6⟩ : ∃ b6, decide ((en : Int) < (b : Int)) = b6 := ⟨_, rfl⟩
      have G1 : Hid (b1 = true ↔ i < m) := Lib.hid (by rw [← hb1, decide_eq_true_eq]; omega)
      have G2 : Hid (b2 = true ↔ m < en) := Lib.hid (by rw [← hb2, decide_eq_true_eq]; omega)
      have G3 : Hid (b3 = true ↔ a < i) := Lib.hid (by rw [← hb3, decide_eq_true_eq]; omega)
      have G4 : Hid (b4 = true ↔ i < mid) := Lib.hid (by rw [← hb4, decide_eq_true_eq]; omega)
      have G5 : Hid (b5 = true ↔ mid < en) := Lib.hid (by rw [← hb5, decide_eq_true_eq]; omega)
      have G6 : Hid (b6 = true ↔ en < b) := Lib.hid (by rw [← hb6, decide_eq_true_eq]; omega)
      have hb1n : decide (i < m) = b1 := by rw [← hb1]; simp
      have hb2n : decide (m < en) = b2 := by rw [← hb2]; simp
      have hb3n : decide (a < i) = b3 := by rw [← hb3]; simp
      have hb4n : decide (i < mid) = b4 := by rw [← hb4]; simp
      have hb5n : decide (mid < en) = b5 := by rw [← hb5]; simp
      have hb6n : decide (en < b) = b6 := by rw [← hb6]; simp
      clear f1 f2 f3 f4 f5 f6 f7 f8 f9 hi0 hj0 hA1 hA2 hB1 hB2 HM1 HM2 HLo HHi HP HI0 hen hltz
      go_upto_region 39 with (fail)
      go_cut [185] from 178 to 185 (fun v wx => v = .bool (b1 && b2) ∧ wx = wr)
      case first =>
        cases b1
        all_goals
          go_wp2_with fail
          go_meet
          exact ⟨rfl, rfl⟩
      case rest =>
      obtain ⟨rfl, hwc⟩ := hcut
      rw [hwc]
      clear hwc wc
      have GG1 : Hid ((b1 && b2) = true ↔ i < m ∧ m < en) := Lib.hid (by rw [Bool.and_eq_true, G1.out, G2.out])
      generalize (b1 && b2) = g1 at *
      go_upto_if 185 with (fail)
      go_cut [] from 186 to 191 (fun wx => Hid (PRl w0 wx B blk cap (P ++ (A1 ++ (B1 ++ (A2 ++ (B2 ++ S)))))))
      case first =>
        cases g1
        · have e : A2 = [] ∨ B1 = [] := by
            have hh := GG1.out
            have hl := HLN.out
            have hf := hFC.out
            simp only [Bool.false_eq_true, false_iff, not_and, Nat.not_lt] at hh
            by_cases hc : i < m
            · exact .inr (List.length_eq_zero_iff.1 (by have := hh hc; omega))
            · exact .inl (List.length_eq_zero_iff.1 (by omega))
          have H2 : Hid (PRl w0 wr B blk cap (P ++ (A1 ++ (B1 ++ (A2 ++ (B2 ++ S)))))) := Lib.hid (by
            have := H1.out
            rcases e with rfl | rfl
            · simpa using this
            · simpa using this)
          clear e H1
          go_wp2_with fail
          go_meet
          exact H2
        · have hh := GG1.out.1 rfl
          have kO : Calls Tryz.prog 181 #[.slice (some ⟨blk, 0, none⟩) n cap, .int .i64 (i : Int), .int .i64 (m : Int), .int .i64 (en : Int), .func (.func 47) #[] #[]] wr fun e w' => e = .returned (.tuple #[]) ∧ PRl w0 w' B blk cap ((P ++ A1) ++ (B1 ++ (A2 ++ (B2 ++ S)))) := by
            have hl := HLN.out
            have hf := hFC.out
            exact protate_any w0 B blk cap i m en n (P ++ A1) A2 B1 (B2 ++ S) wr _ (by have := H1.out; rw [List.append_assoc]; exact this) (by simp only [List.length_append]; omega) (by simp only [List.length_append]; omega) (by omega) (by omega) (by omega) (by omega) (by omega)
          clear hh H1
          go_wp2_with (go_at_call 181; (with_reducible refine kO.mono ?_); rintro en5 w5 ⟨rfl, hR5⟩)
          go_meet
          exact Lib.hid (by rw [List.append_assoc] at hR5; exact hR5)
      case rest =>
      have H2 := hcut
      clear H1 hcut
      go_upto_region 41 with (fail)
      go_cut [199] from 192 to 199 (fun v wx => v = .bool (b3 && b4) ∧ wx = wc)
      case first =>
        cases b3
        all_goals
          go_wp2_with fail
          go_meet
          exact ⟨rfl, rfl⟩
      case rest =>
      obtain ⟨rfl, hwc2⟩ := hcut
      rw [hwc2]
      clear hwc2
      have GG2 : Hid ((b3 && b4) = true ↔ a < i ∧ i < mid) := Lib.hid (by rw [Bool.and_eq_true, G3.out, G4.out])
      generalize (b3 && b4) = g2 at *
      go_upto_if 199 with (fail)
      go_cut [] from 200 to 205 (fun wx => ∃ C, Hid (C.Perm (A1 ++ B1)) ∧ Hid (Rises (ltOf pcf) C) ∧ Hid (PRl w0 wx B blk cap (P ++ (C ++ (A2 ++ (B2 ++ S))))))
      case first =>
        cases g2
        · have e : A1 = [] ∨ B1 = [] := by
            have hh := GG2.out
            have hl := HLN.out
            have hf := hFC.out
            simp only [Bool.false_eq_true, false_iff, not_and, Nat.not_lt] at hh
            by_cases hc : a < i
            · exact .inr (List.length_eq_zero_iff.1 (by have := hh hc; omega))
            · exact .inl (List.length_eq_zero_iff.1 (by omega))
          have HC : Hid (Rises (ltOf pcf) (A1 ++ B1)) := Lib.hid (by
            rcases e with rfl | rfl
            · simpa using HRI.out.2.2.1
            · simpa using HRI.out.1)
          clear e
          go_wp2_with fail
          go_meet
          exact ⟨A1 ++ B1, Lib.hid (List.Perm.refl _), HC, Lib.hid (by have := H2.out; rw [List.append_assoc]; exact this)⟩
        · have hh := GG2.out.1 rfl
          have kR : ∀ W, PRl w0 W B blk cap (P ++ (A1 ++ (B1 ++ (A2 ++ (B2 ++ S))))) → Calls Tryz.prog 133 #[.slice (some ⟨blk, 0, none⟩) n cap, .int .i64 (a : Int), .int .i64 (i : Int), .int .i64 (mid : Int), .func (.func 47) #[] #[]] W fun e w' => e = .returned (.tuple #[]) ∧ ∃ C, C.Perm (A1 ++ B1) ∧ Rises (ltOf pcf) C ∧ PRl w0 w' B blk cap (P ++ (C ++ (A2 ++ (B2 ++ S)))) := fun W hW => by
            have hl := HLN.out
            have hf := hFC.out
            have q := HREC.out P A1 B1 (A2 ++ (B2 ++ S)) HLS.out.1 (by omega) (by omega) HRI.out.1 HRI.out.2.2.1 (by simp only [List.length_append]; omega) W hW
            rw [show P.length + A1.length + B1.length = mid by omega, show P.length + A1.length = i by omega, show P.length = a by omega] at q
            exact q
          clear hh
          go_wp2_with (go_at_call 133; (with_reducible refine (kR _ H2.out).mono ?_); rintro en5 w5 ⟨rfl, C, hC1, hC2, hC3⟩)
          go_meet
          exact ⟨C, Lib.hid hC1, Lib.hid hC2, Lib.hid hC3⟩
      case rest =>
      obtain ⟨C, HC1, HC2, HC3⟩ := hcut
      clear H2
      have hCl : Hid (C.length = mid - a) := Lib.hid (by have hl := HLN.out; have hf := hFC.out; rw [HC1.out.length_eq, List.length_append]; omega)
      go_upto_region 43 with (fail)
      obtain ⟨wd, hwd⟩ : ∃ wd : World, wd = wc := ⟨_, rfl⟩
      rw [← hwd] at HC3 ⊢
      clear hwd wc
      go_cut [213] from 206 to 213 (fun v wx => v = .bool (b5 && b6) ∧ wx = wd)
      case first =>
        cases b5
        all_goals
          go_wp2_with fail
          go_meet
          exact ⟨rfl, rfl⟩
      case rest =>
      obtain ⟨rfl, hwc3⟩ := hcut
      rw [hwc3]
      clear hwc3
      have GG3 : Hid ((b5 && b6) = true ↔ mid < en ∧ en < b) := Lib.hid (by rw [Bool.and_eq_true, G5.out, G6.out])
      generalize (b5 && b6) = g3 at *
      cases g3
      · have e : A2 = [] ∨ B2 = [] := by
          have hh := GG3.out
          have hl := HLN.out
          have hf := hFC.out
          simp only [Bool.false_eq_true, false_iff, not_and, Nat.not_lt] at hh
          by_cases hc : mid < en
          · exact .inr (List.length_eq_zero_iff.1 (by have := hh hc; omega))
          · exact .inl (List.length_eq_zero_iff.1 (by omega))
        have HD2 : Rises (ltOf pcf) (A2 ++ B2) := by
          rcases e with rfl | rfl
          · simpa using HRI.out.2.2.2
          · simpa using HRI.out.2.1
        obtain ⟨r1, r2⟩ := HFIN.out C (A2 ++ B2) HC1.out (List.Perm.refl _) HC2.out HD2
        have hfin : PRl w0 wd B blk cap (P ++ ((C ++ (A2 ++ B2)) ++ S)) := by
          have := HC3.out
          simpa [List.append_assoc] using this
        have HZ := Lib.hid (And.intro r1 (And.intro r2 hfin))
        clear e HD2 r1 r2 hfin
        go_wp2_with fail
        first
          | exact ⟨rfl, _, HZ.out.1, HZ.out.2.1, HZ.out.2.2⟩
          | (go_end0; exact ⟨rfl, _, HZ.out.1, HZ.out.2.1, HZ.out.2.2⟩)
          | exact bodyPost_ret (v := .tuple #[]) (by first | rfl | simp [results, Tryz.results133, go_sem]) rfl ⟨rfl, _, HZ.out.1, HZ.out.2.1, HZ.out.2.2⟩
      · have hh := GG3.out.1 rfl
        have kR : ∀ W, PRl w0 W B blk cap ((P ++ C) ++ (A2 ++ (B2 ++ S))) → Calls Tryz.prog 133 #[.slice (some ⟨blk, 0, none⟩) n cap, .int .i64 (mid : Int), .int .i64 (en : Int), .int .i64 (b : Int), .func (.func 47) #[] #[]] W fun e w' => e = .returned (.tuple #[]) ∧ ∃ D, D.Perm (A2 ++ B2) ∧ Rises (ltOf pcf) D ∧ PRl w0 w' B blk cap ((P ++ C) ++ (D ++ S)) := fun W hW => by
          have hl := HLN.out
          have hf := hFC.out
          have hc := hCl.out
          have q := HREC.out (P ++ C) A2 B2 S HLS.out.2 (by omega) (by omega) HRI.out.2.1 HRI.out.2.2.2 (by simp only [List.length_append]; omega) W hW
          rw [show (P ++ C).length + A2.length + B2.length = b by simp only [List.length_append]; omega, show (P ++ C).length + A2.length = en by simp only [List.length_append]; omega, show (P ++ C).length = mid by simp only [List.length_append]; omega] at q
          exact q
        have HC4 : Hid (PRl w0 wd B blk cap ((P ++ C) ++ (A2 ++ (B2 ++ S)))) := Lib.hid (by rw [List.append_assoc]; exact HC3.out)
        clear hh
        go_wp2_with (go_at_call 133; (with_reducible refine (kR _ HC4.out).mono ?_); rintro en5 w5 ⟨rfl, D, hD1, hD2, hD3⟩)
        have HZ : Hid ((C ++ D).Perm (A ++ Bs) ∧ Rises (ltOf pcf) (C ++ D) ∧ PRl w0 w5 B blk cap (P ++ ((C ++ D) ++ S))) := Lib.hid (by
          obtain ⟨r1, r2⟩ := HFIN.out C D HC1.out hD1 HC2.out hD2
          exact ⟨r1, r2, by simpa [List.append_assoc] using hD3⟩)
        first
          | exact ⟨rfl, _, HZ.out.1, HZ.out.2.1, HZ.out.2.2⟩
          | (go_end0; exact ⟨rfl, _, HZ.out.1, HZ.out.2.1, HZ.out.2.2⟩)
          | exact bodyPost_ret (v := .tuple #[]) (by first | rfl | simp [results, Tryz.results133, go_sem]) rfl ⟨rfl, _, HZ.out.1, HZ.out.2.1, HZ.out.2.2⟩
end
section
open Go.RowKit Go.Sort Go.Shelf
theorem sym_any (w0 : World) (B blk cap n : Nat) (hsz : n ≤ 1048576) : ∀ (N : Nat) (P A Bs S : List VPnt), A.length + Bs.length ≤ N → 0 < A.length → 0 < Bs.length → Rises (ltOf pcf) A → Rises (ltOf pcf) Bs → n = P.length + (A.length + (Bs.length + S.length)) → SymC w0 B blk cap n P A Bs S := by
  intro N
  induction N with
  | zero => intro P A Bs S h h1; omega
  | succ N ih =>
    intro P A Bs S h hA0 hB0 hA hB hn
    by_cases h1 : A.length = 1
    · obtain ⟨x, rfl⟩ := List.length_eq_one_iff.1 h1
      exact symOneA w0 B blk cap n P Bs S x (by simpa using hn) hB0 hsz hB
    · by_cases h2 : Bs.length = 1
      · obtain ⟨x, rfl⟩ := List.length_eq_one_iff.1 h2
        exact symOneB w0 B blk cap n P A S x (by simp only [List.length_singleton] at hn; omega) (by omega) hsz hA
      · exact symStep w0 B blk cap n P A Bs S hn (by omega) (by omega) hsz hA hB (fun P' A' B' S' hl g1 g2 g3 g4 g5 => ih P' A' B' S' (by omega) g1 g2 g3 g4 g5)
/-- Blocks of k, each rising. -/
def BlksTo (k : Nat) (l : List VPnt) : Prop := ∀ i, i * k < l.length → Rises (ltOf pcf) ((l.drop (i * k)).take k)
theorem blks_snoc {k q : Nat} {X C : List VPnt} (h : BlksTo k X) (hl : X.length = q * k) (hk : C.length ≤ k) (hC : Rises (ltOf pcf) C) : BlksTo k (X ++ C) := by
  intro i hi
  rcases Nat.lt_trichotomy i q with hq | hq | hq
  · have h1 : i * k + k ≤ q * k := by
      have := Nat.mul_le_mul_right k hq
      rw [Nat.succ_mul] at this; exact this
    by_cases hk0 : k = 0
    · subst hk0; simp [Rises]
    have h2 := h i (by omega)
    rw [List.drop_append_of_le_length (by omega), List.take_append_of_le_length (by rw [List.length_drop]; omega)]
    exact h2
  · subst hq
    rw [← hl, List.drop_left, List.take_of_length_le hk]
    exact hC
  · have h1 : q * k + k ≤ i * k := by
      have := Nat.mul_le_mul_right k hq
      rw [Nat.succ_mul] at this; exact this
    rw [List.length_append] at hi
    omega
theorem blks_at {k a : Nat} {l : List VPnt} (h : BlksTo k l) (ha : ∃ q, a = q * k) (hlt : a < l.length) : Rises (ltOf pcf) ((l.drop a).take k) := by
  obtain ⟨q, rfl⟩ := ha
  exact h q hlt
theorem blks_end {k : Nat} {l : List VPnt} (h : BlksTo k l) (hk : l.length ≤ k) : Rises (ltOf pcf) l := by
  by_cases h0 : l.length = 0
  · rw [List.length_eq_zero_iff] at h0; subst h0; exact List.Pairwise.nil
  · have := h 0 (by omega)
    simpa [List.take_of_length_le hk] using this
set_option maxRecDepth 100000 in
set_option maxHeartbeats 25600000 in
theorem pstableN_any (w0 : World) (B blk cap n : Nat) (l0 : List VPnt) (w : World) (h : PRs w0 w B blk cap l0) (hn : n = l0.length) (hsz : n ≤ 1048576) :
    Calls Tryz.prog 85 #[.slice (some ⟨blk, 0, none⟩) n cap, .int .i64 (n : Int), .func (.func 47) #[] #[]] w fun e w' => e = .returned (.tuple #[]) ∧ ∃ l', l'.Perm l0 ∧ Rises (ltOf pcf) l' ∧ PRs w0 w' B blk cap l' := by
  have H := Lib.hid h
  have HN := Lib.hid hn
  clear h hn
  have hB0 : Hid (BlksTo 20 []) := Lib.hid (fun i hi => by simp at hi)
  go_enter Tryz.func85, Tryz.ntmps85
  go_wp2_with fail
  go_loopw [7, 8] (fun va vb wr => ∃ (a q : Nat) (X : List VPnt), va = .int .i64 (a : Int) ∧ vb = .int .i64 ((a : Int) + 20) ∧ a ≤ n ∧ Hid (a = q * 20 ∧ X.length = a ∧ X.Perm (l0.take a) ∧ BlksTo 20 X) ∧ Hid (PRs w0 wr B blk cap (X ++ l0.drop a))) (fun va _ _ => n - (intOf va).toNat)
  case atStart => exact ⟨0, 0, [], rfl, rfl, Nat.zero_le _, Lib.hid ⟨by simp, rfl, by simp, hB0.out⟩, Lib.hid (by simpa using H.out)⟩
  case round =>
    obtain ⟨a, q, X, rfl, rfl, han, HX, HP⟩ := hrel
    clear H hB0
    have wa : IntKind.i64.wrap ((a : Int) + 20 + 20) = (a : Int) + 20 + 20 := IntWalk.i64_in _ (by omega)
    by_cases hlt : a + 20 ≤ n
    · have hd : decide ((a : Int) + 20 ≤ (n : Int)) = true := decide_eq_true (by omega)
      have kI : Calls Tryz.prog 132 #[.slice (some ⟨blk, 0, none⟩) n cap, .int .i64 (a : Int), .int .i64 ((a : Int) + 20), .func (.func 47) #[] #[]] wr fun e w' => e = .returned (.tuple #[]) ∧ ∃ X', X'.Perm ((l0.drop a).take 20) ∧ Rises (ltOf pcf) X' ∧ PRs w0 w' B blk cap (X ++ (X' ++ (l0.drop a).drop 20)) := by
        have hx := HX.out
        have hn := HN.out
        have hl : ((l0.drop a).take 20).length = 20 := by rw [List.length_take, List.length_drop]; omega
        have e := pins_cut w0 B blk cap a (a + 20) n X ((l0.drop a).take 20) ((l0.drop a).drop 20) wr (by rw [List.take_append_drop]; exact HP.out) (by omega) (by omega) (by rw [hl]; simp only [List.length_drop]; omega) hsz
        rw [show ((a + 20 : Nat) : Int) = (a : Int) + 20 by omega] at e
        exact e
      go_wp2_with (go_at_call 132; (with_reducible refine kI.mono ?_); rintro en w5 ⟨rfl, X', hp', hr', hP'⟩)
      refine ⟨⟨a + 20, q + 1, X ++ X', by simp, by simp, by omega, Lib.hid ?_, Lib.hid ?_⟩, by (simp only [intOf]; omega)⟩
      · obtain ⟨h1, h2, h3, h4⟩ := HX.out
        have hn := HN.out
        have hl : X'.length = 20 := by rw [hp'.length_eq, List.length_take, List.length_drop]; omega
        refine ⟨by omega, by rw [List.length_append]; omega, ?_, blks_snoc (q := q) h4 (by omega) (by omega) hr'⟩
        rw [List.take_add]
        exact h3.append hp'
      · rw [List.drop_drop] at hP'
        rw [List.append_assoc]
        exact hP'
    · have hd : decide ((a : Int) + 20 ≤ (n : Int)) = false := decide_eq_false (by omega)
      have kI : Calls Tryz.prog 132 #[.slice (some ⟨blk, 0, none⟩) n cap, .int .i64 (a : Int), .int .i64 (n : Int), .func (.func 47) #[] #[]] wr fun e w' => e = .returned (.tuple #[]) ∧ ∃ l, Hid (l.Perm l0 ∧ BlksTo 20 l) ∧ Hid (PRs w0 w' B blk cap l) := by
        have hx := HX.out
        have hn := HN.out
        have hl : (l0.drop a).length = n - a := by rw [List.length_drop]; omega
        have e := pins_cut w0 B blk cap a n n X (l0.drop a) [] wr (by simpa using HP.out) (by omega) (by omega) (by rw [hl]; simp; omega) hsz
        refine e.mono fun en w' hh => ⟨hh.1, ?_⟩
        obtain ⟨X', h1, h2, h3⟩ := hh.2
        refine ⟨X ++ X', Lib.hid ⟨?_, blks_snoc hx.2.2.2 (q := q) (by omega) (by rw [h1.length_eq]; omega) h2⟩, Lib.hid (by have q3 := h3; rw [List.append_nil] at q3; exact q3)⟩
        have := hx.2.2.1.append h1
        rw [List.take_append_drop] at this
        exact this
      clear HX HP wa
      go_upto_block 2 with (go_at_call 132; (with_reducible refine kI.mono ?_); rintro en w5 ⟨rfl, l, HL, HP⟩)
      clear kI hd hlt
      go_wp2_with fail
      go_loopw [6, 7, 8, 9] (fun vk _ _ _ wr2 => ∃ (k : Nat) (l : List VPnt), vk = .int .i64 (k : Int) ∧ 0 < k ∧ Hid (l.Perm l0 ∧ BlksTo k l) ∧ Hid (PRs w0 wr2 B blk cap l)) (fun vk _ _ _ _ => n - (intOf vk).toNat)
      case atStart => exact ⟨20, l, rfl, by omega, HL, HP⟩
      case round =>
        obtain ⟨k, l, rfl, hk0, HL, HP⟩ := hrel
        by_cases hlt : k < n
        case neg =>
          have hd : decide ((k : Int) < (n : Int)) = false := decide_eq_false (by omega)
          have HZ : Hid (l.Perm l0 ∧ Rises (ltOf pcf) l) := Lib.hid ⟨HL.out.1, blks_end HL.out.2 (by rw [HL.out.1.length_eq]; have := HN.out; omega)⟩
          have HP' := HP.out
          go_wp2_with fail
          first
            | exact ⟨rfl, l, HZ.out.1, HZ.out.2, HP'⟩
            | (go_end0; exact ⟨rfl, l, HZ.out.1, HZ.out.2, HP'⟩)
        case pos =>
          have hd : decide ((k : Int) < (n : Int)) = true := decide_eq_true (by omega)
          obtain ⟨k2, hk2⟩ : ∃ k2, k2 = 2 * k := ⟨_, rfl⟩
          have wk2 : IntKind.i64.wrap (2 * (k : Int)) = (k2 : Int) := by rw [IntWalk.i64_in _ (by omega)]; omega
          have wk3 : IntKind.i64.wrap ((k : Int) * 2) = (k2 : Int) := by rw [IntWalk.i64_in _ (by omega)]; omega
          have HK2 := Lib.hid hk2
          have hll : Hid (l.length = n) := Lib.hid (by rw [HL.out.1.length_eq]; exact HN.out.symm)
          have hk2n : k2 ≤ 2097152 := by omega
          have hkk : k < k2 := by omega
          clear hk2
          go_wp2_with fail
          go_loopw [7, 8] (fun va vb wr3 => ∃ (a q : Nat) (X : List VPnt), va = .int .i64 (a : Int) ∧ vb = .int .i64 ((a : Int) + (k2 : Int)) ∧ a ≤ n ∧ Hid (a = q * k2 ∧ X.length = a ∧ X.Perm (l.take a) ∧ BlksTo k2 X) ∧ Hid (PRs w0 wr3 B blk cap (X ++ l.drop a))) (fun va _ _ => n - (intOf va).toNat)
          case atStart => exact ⟨0, 0, [], by simp, by simp, Nat.zero_le _, Lib.hid ⟨by simp, rfl, by simp, fun i hi => by simp at hi⟩, Lib.hid (by simpa using HP.out)⟩
          case round =>
            obtain ⟨a, q, X, rfl, rfl, han, HX, HP3⟩ := hrel
            clear HP
            have wa : IntKind.i64.wrap ((a : Int) + (k2 : Int) + (k2 : Int)) = (a : Int) + (k2 : Int) + (k2 : Int) := IntWalk.i64_in _ (by omega)
            obtain ⟨m, hm⟩ : ∃ m, m = a + k := ⟨_, rfl⟩
            have wm : IntKind.i64.wrap ((a : Int) + (k : Int)) = (m : Int) := by rw [IntWalk.i64_in _ (by omega)]; omega
            have HM := Lib.hid hm
            clear hm
            have HRs : Hid ((a < n → Rises (ltOf pcf) ((l.drop a).take k)) ∧ (a + k < n → Rises (ltOf pcf) (((l.drop a).drop k).take k))) := Lib.hid (by
              have hx := HX.out.1
              have hk := HK2.out
              have hl := hll.out
              refine ⟨fun h1 => blks_at HL.out.2 ⟨2 * q, by rw [hx, hk, Nat.mul_comm 2 q, Nat.mul_assoc]⟩ (by omega), fun h1 => ?_⟩
              rw [List.drop_drop]
              exact blks_at HL.out.2 ⟨2 * q + 1, by rw [Nat.add_mul, Nat.one_mul, hx, hk, Nat.mul_comm 2 q, Nat.mul_assoc]⟩ (by omega))
            by_cases hlt2 : a + k2 ≤ n
            case pos =>
              have hd2 : decide ((a : Int) + (k2 : Int) ≤ (n : Int)) = true := decide_eq_true (by omega)
              have kS : Calls Tryz.prog 133 #[.slice (some ⟨blk, 0, none⟩) n cap, .int .i64 (a : Int), .int .i64 (m : Int), .int .i64 ((a : Int) + (k2 : Int)), .func (.func 47) #[] #[]] wr fun e w' => e = .returned (.tuple #[]) ∧ ∃ C, Hid (C.Perm ((l.drop a).take k2) ∧ Rises (ltOf pcf) C) ∧ Hid (PRs w0 w' B blk cap (X ++ (C ++ l.drop (a + k2)))) := by
                have hx := HX.out
                have hk := HK2.out
                have hl := hll.out
                have hm := HM.out
                have l1 : ((l.drop a).take k).length = k := by rw [List.length_take, List.length_drop]; omega
                have l2 : (((l.drop a).drop k).take k).length = k := by rw [List.length_take, List.length_drop, List.length_drop]; omega
                have e := sym_any w0 B blk cap n hsz _ X ((l.drop a).take k) (((l.drop a).drop k).take k) (((l.drop a).drop k).drop k) (Nat.le_refl _) (by omega) (by omega) (HRs.out.1 (by omega)) (HRs.out.2 (by omega)) (by rw [l1, l2, List.length_drop, List.length_drop, List.length_drop]; omega) wr (by rw [List.take_append_drop, List.take_append_drop]; exact HP3.out)
                rw [l1, l2, hx.2.1, show ((a + k + k : Nat) : Int) = (a : Int) + (k2 : Int) by omega, show a + k = m by omega] at e
                refine e.mono fun en w' hh => ⟨hh.1, ?_⟩
                obtain ⟨C, h1, h2, h3⟩ := hh.2
                refine ⟨C, Lib.hid ⟨?_, h2⟩, Lib.hid ?_⟩
                · rw [hk, show 2 * k = k + k by omega, List.take_add]; exact h1
                · rw [List.drop_drop, List.drop_drop, show a + (k + k) = a + k2 by omega] at h3
                  exact h3
              clear HRs
              go_wp2_with (go_at_call 133; (with_reducible refine kS.mono ?_); rintro en w5 ⟨rfl, C, HC, HP5⟩)
              refine ⟨⟨a + k2, q + 1, X ++ C, by simp, by simp, by omega, Lib.hid ?_, Lib.hid ?_⟩, by (simp only [intOf]; omega)⟩
              · obtain ⟨h1, h2, h3, h4⟩ := HX.out
                have hl := hll.out
                have hcl : C.length = k2 := by rw [HC.out.1.length_eq, List.length_take, List.length_drop]; omega
                refine ⟨by rw [Nat.add_mul, Nat.one_mul, h1], by rw [List.length_append]; omega, ?_, blks_snoc (q := q) h4 (by omega) (by omega) HC.out.2⟩
                rw [List.take_add]
                exact h3.append HC.out.1
              · rw [List.append_assoc]
                exact HP5.out
            case neg =>
              have hd2 : decide ((a : Int) + (k2 : Int) ≤ (n : Int)) = false := decide_eq_false (by omega)
              by_cases hmn : m < n
              · have hd3 : decide ((m : Int) < (n : Int)) = true := decide_eq_true (by omega)
                have kS : Calls Tryz.prog 133 #[.slice (some ⟨blk, 0, none⟩) n cap, .int .i64 (a : Int), .int .i64 (m : Int), .int .i64 (n : Int), .func (.func 47) #[] #[]] wr fun e w' => e = .returned (.tuple #[]) ∧ ∃ l', Hid (l'.Perm l0 ∧ BlksTo k2 l') ∧ Hid (PRs w0 w' B blk cap l') := by
                  have hx := HX.out
                  have hk := HK2.out
                  have hl := hll.out
                  have hm := HM.out
                  have l1 : ((l.drop a).take k).length = k := by rw [List.length_take, List.length_drop]; omega
                  have l2 : ((l.drop a).drop k).length = n - m := by rw [List.length_drop, List.length_drop]; omega
                  have e3 : ((l.drop a).drop k).take k = (l.drop a).drop k := List.take_of_length_le (by omega)
                  have e := sym_any w0 B blk cap n hsz _ X ((l.drop a).take k) ((l.drop a).drop k) [] (Nat.le_refl _) (by omega) (by omega) (HRs.out.1 (by omega)) (by have := HRs.out.2 (by omega); rw [e3] at this; exact this) (by rw [l1, l2]; simp; omega) wr (by rw [List.append_nil, List.take_append_drop]; exact HP3.out)
                  rw [l1, l2, hx.2.1, show a + k + (n - m) = n by omega, show a + k = m by omega] at e
                  refine e.mono fun en w' hh => ⟨hh.1, ?_⟩
                  obtain ⟨C, h1, h2, h3⟩ := hh.2
                  rw [List.take_append_drop] at h1
                  refine ⟨X ++ C, Lib.hid ⟨?_, blks_snoc (q := q) hx.2.2.2 (by omega) (by rw [h1.length_eq, List.length_drop]; omega) h2⟩, Lib.hid (by have q3 := h3; rw [List.append_nil] at q3; exact q3)⟩
                  have := hx.2.2.1.append h1
                  rw [List.take_append_drop] at this
                  exact this.trans HL.out.1
                clear HRs HX HP3
                go_wp2_with (go_at_call 133; (with_reducible refine kS.mono ?_); rintro en w5 ⟨rfl, l', HL', HP'⟩)
                exact ⟨⟨k2, l', by simp, by omega, HL', HP'⟩, by (simp only [intOf]; omega)⟩
              · have hd3 : decide ((m : Int) < (n : Int)) = false := decide_eq_false (by omega)
                have HL' : Hid ((X ++ l.drop a).Perm l0 ∧ BlksTo k2 (X ++ l.drop a)) := Lib.hid (by
                  have hx := HX.out
                  have hk := HK2.out
                  have hl := hll.out
                  have hm := HM.out
                  have hdl : (l.drop a).length = n - a := by rw [List.length_drop]; omega
                  have hr : Rises (ltOf pcf) (l.drop a) := by
                    by_cases han2 : a < n
                    · have := HRs.out.1 han2
                      rwa [List.take_of_length_le (by omega)] at this
                    · have : l.drop a = [] := List.length_eq_zero_iff.1 (by omega)
                      rw [this]; exact List.Pairwise.nil
                  refine ⟨?_, blks_snoc (q := q) hx.2.2.2 (by omega) (by omega) hr⟩
                  have := hx.2.2.1.append (List.Perm.refl (l.drop a))
                  rw [List.take_append_drop] at this
                  exact this.trans HL.out.1)
                clear HRs HX
                go_wp2_with fail
                exact ⟨⟨k2, X ++ l.drop a, by simp, by omega, HL', HP3⟩, by (simp only [intOf]; omega)⟩
end
section
open Go.RowKit Go.Sort Go.Shelf
theorem psortSN_any (w0 : World) (B blk cap n : Nat) (l : List VPnt) (w : World) (h : PRs w0 w B blk cap l) (hn : n = l.length) (hsz : n ≤ 1048576) :
    Calls Tryz.prog 46 #[.slice (some ⟨blk, 0, none⟩) n cap, .func (.func 47) #[] #[]] w fun e w' => e = .returned (.tuple #[]) ∧ ∃ l', l'.Perm l ∧ Rises (ltOf pcf) l' ∧ PRs w0 w' B blk cap l' := by
  have kP := pstableN_any w0 B blk cap n l w h hn hsz
  clear h hn
  go_enter Tryz.func46, Tryz.ntmps46
  go_wp2_with (go_at_call 85; (with_reducible refine kP.mono ?_); rintro e w1 ⟨rfl, hw1⟩)
  first
    | go_end0
    | refine bodyPost_ret (results_none rfl _ _ _) rfl ?_
  exact ⟨rfl, hw1⟩
end
section
open Go.RowKit Go.Sort Go.Shelf
theorem pnt_cells {w : World} {B b off n i : Nat} {ps : List VPnt} {x : VPnt} (h : IsRows pntCell 9 w B (some ⟨b, off, none⟩) n ps) (hx : ps[i]? = some x) : w.cell? ⟨b, off + i * 9, none⟩ = some (.slice x.A x.pt.labels.length x.c) ∧ w.cell? ⟨b, off + i * 9 + 1, none⟩ = some (.int .i64 (x.pt.role : Int)) ∧ w.cell? ⟨b, off + i * 9 + 2, none⟩ = some (.bool x.pt.inf) ∧ w.cell? ⟨b, off + i * 9 + 3, none⟩ = some (.int .i64 x.pt.bM) ∧ w.cell? ⟨b, off + i * 9 + 4, none⟩ = some (.int .i64 (x.pt.bS : Int)) ∧ w.cell? ⟨b, off + i * 9 + 5, none⟩ = some (.int .i64 x.pt.vM) ∧ w.cell? ⟨b, off + i * 9 + 6, none⟩ = some (.int .i64 (x.pt.vS : Int)) ∧ w.cell? ⟨b, off + i * 9 + 7, none⟩ = some (.bool x.pt.timed) ∧ w.cell? ⟨b, off + i * 9 + 8, none⟩ = some (.int .i64 x.pt.time) := by
  have hi : i < ps.length := (List.getElem?_eq_some_iff.1 hx).1
  have hl := h.1
  obtain ⟨b', off', e, hb, hc⟩ := h.2 (by omega)
  injection e with e
  injection e with e1 e2
  subst e1; subst e2
  exact ⟨hc i x 0 _ hx rfl, hc i x 1 _ hx rfl, hc i x 2 _ hx rfl, hc i x 3 _ hx rfl, hc i x 4 _ hx rfl, hc i x 5 _ hx rfl, hc i x 6 _ hx rfl, hc i x 7 _ hx rfl, hc i x 8 _ hx rfl⟩
set_option maxRecDepth 100000 in
set_option maxHeartbeats 6400000 in
theorem risesYes (A : Option Addr) (n cap : Nat) (ps : List VPnt) (w : World) (hl : IsRows pntCell 9 w w.heap.size A n ps) (hlab : ∀ y ∈ ps, IsRows labCell 2 w w.heap.size y.A y.pt.labels.length y.pt.labels) (hok : ∀ y ∈ ps, PntOk y.pt) (hr : ps.Pairwise fun x y => pcf x y < 0) (hn : n ≤ 1048576) :
    Calls Tryz.prog 48 #[.slice A n cap] w fun e w' => e = .returned (.bool true) ∧ Aw [] w w' := by
  have hln := hl.1
  have HL := Lib.hid hl
  have HLB := Lib.hid hlab
  have HOK := Lib.hid hok
  have HR := Lib.hid hr
  clear hl hlab hok hr
  go_enter Tryz.func48, Tryz.ntmps48
  go_wp2_with fail
  go_loopw [3] (fun iv wr => ∃ k : Nat, iv = .int .i64 ((k : Int) + 1) ∧ k ≤ n ∧ Aw [] w wr) (fun iv _ => n + 1 - (intOf iv).toNat)
  case atStart => exact ⟨0, rfl, by omega, Aw.refl _ _⟩
  case round =>
    obtain ⟨k, rfl, hk, hA⟩ := hrel
    by_cases hlt : k + 1 < n
    · have hd : decide ((k : Int) + 1 < (n : Int)) = true := decide_eq_true (by omega)
      have hwp : IntKind.i64.wrap (k : Int) = (k : Int) := IntWalk.i64_in _ (by omega)
      have jz : (k : Int) + 1 < (n : Int) := by omega
      have jz1 : (k : Int) < (n : Int) := by omega
      have p0 : (0 : Int) ≤ (k : Int) + 1 := by omega
      have p1 : (0 : Int) ≤ (k : Int) := by omega
      obtain ⟨b, off, rfl, _, _⟩ := HL.out.2 (by omega)
      obtain ⟨x, hx⟩ : ∃ x, ps[k]? = some x := ⟨_, List.getElem?_eq_getElem (by omega)⟩
      obtain ⟨y, hy⟩ : ∃ y, ps[k + 1]? = some y := ⟨_, List.getElem?_eq_getElem (by omega)⟩
      have hxm := List.mem_of_getElem? hx
      have hym := List.mem_of_getElem? hy
      have hc0 : pcf x y < 0 := by
        have := List.pairwise_iff_getElem.1 HR.out k (k + 1) (by omega) (by omega) (by omega)
        rw [(List.getElem?_eq_some_iff.1 hx).2, (List.getElem?_eq_some_iff.1 hy).2] at this
        exact this
      have hge : decide (0 ≤ pcf x y) = false := decide_eq_false (by omega)
      have hst : ∀ W, Aw [] w W → (W.cell? ⟨b, off + k * 9, none⟩ = some (.slice x.A x.pt.labels.length x.c) ∧ W.cell? ⟨b, off + k * 9 + 1, none⟩ = some (.int .i64 (x.pt.role : Int)) ∧ W.cell? ⟨b, off + k * 9 + 2, none⟩ = some (.bool x.pt.inf) ∧ W.cell? ⟨b, off + k * 9 + 3, none⟩ = some (.int .i64 x.pt.bM) ∧ W.cell? ⟨b, off + k * 9 + 4, none⟩ = some (.int .i64 (x.pt.bS : Int)) ∧ W.cell? ⟨b, off + k * 9 + 5, none⟩ = some (.int .i64 x.pt.vM) ∧ W.cell? ⟨b, off + k * 9 + 6, none⟩ = some (.int .i64 (x.pt.vS : Int)) ∧ W.cell? ⟨b, off + k * 9 + 7, none⟩ = some (.bool x.pt.timed) ∧ W.cell? ⟨b, off + k * 9 + 8, none⟩ = some (.int .i64 x.pt.time)) ∧ (W.cell? ⟨b, off + (k + 1) * 9, none⟩ = some (.slice y.A y.pt.labels.length y.c) ∧ W.cell? ⟨b, off + (k + 1) * 9 + 1, none⟩ = some (.int .i64 (y.pt.role : Int)) ∧ W.cell? ⟨b, off + (k + 1) * 9 + 2, none⟩ = some (.bool y.pt.inf) ∧ W.cell? ⟨b, off + (k + 1) * 9 + 3, none⟩ = some (.int .i64 y.pt.bM) ∧ W.cell? ⟨b, off + (k + 1) * 9 + 4, none⟩ = some (.int .i64 (y.pt.bS : Int)) ∧ W.cell? ⟨b, off + (k + 1) * 9 + 5, none⟩ = some (.int .i64 y.pt.vM) ∧ W.cell? ⟨b, off + (k + 1) * 9 + 6, none⟩ = some (.int .i64 (y.pt.vS : Int)) ∧ W.cell? ⟨b, off + (k + 1) * 9 + 7, none⟩ = some (.bool y.pt.timed) ∧ W.cell? ⟨b, off + (k + 1) * 9 + 8, none⟩ = some (.int .i64 y.pt.time)) ∧ Aw [] w W := fun W hW => by
        have hr := HL.out.aw hW (Nat.le_refl _) (by simp)
        exact ⟨pnt_cells hr hx, pnt_cells hr hy, hW⟩
      have hcmp : ∀ W, Aw [] w W → Calls Tryz.prog 47 #[.agg #[.slice x.A x.pt.labels.length x.c, .int .i64 (x.pt.role : Int), .bool x.pt.inf, .int .i64 x.pt.bM, .int .i64 (x.pt.bS : Int), .int .i64 x.pt.vM, .int .i64 (x.pt.vS : Int), .bool x.pt.timed, .int .i64 x.pt.time], .agg #[.slice y.A y.pt.labels.length y.c, .int .i64 (y.pt.role : Int), .bool y.pt.inf, .int .i64 y.pt.bM, .int .i64 (y.pt.bS : Int), .int .i64 y.pt.vM, .int .i64 (y.pt.vS : Int), .bool y.pt.timed, .int .i64 y.pt.time]] W fun e w2 => e = .returned (.int .i64 (pcf x y)) ∧ Aw [] W w2 := fun W hW => by
        have e := pcompare_any x y W (((HLB.out x hxm).aw hW (Nat.le_refl _) (by simp)).more hW.size) (((HLB.out y hym).aw hW (Nat.le_refl _) (by simp)).more hW.size) (HOK.out x hxm) (HOK.out y hym)
        rw [cmpPnt_key _ _ (HOK.out x hxm).bm (HOK.out y hym).bm] at e
        exact e
      have HST := Lib.hid hst
      have hS0 := hst _ hA.drew
      generalize pcf x y = C at *
      clear hx hy hst hc0
      go_upto_region 4 with (fail)
      go_region_held3 (fun w' => (w'.cell? ⟨b, off + k * 9, none⟩ = some (.slice x.A x.pt.labels.length x.c) ∧ w'.cell? ⟨b, off + k * 9 + 1, none⟩ = some (.int .i64 (x.pt.role : Int)) ∧ w'.cell? ⟨b, off + k * 9 + 2, none⟩ = some (.bool x.pt.inf) ∧ w'.cell? ⟨b, off + k * 9 + 3, none⟩ = some (.int .i64 x.pt.bM) ∧ w'.cell? ⟨b, off + k * 9 + 4, none⟩ = some (.int .i64 (x.pt.bS : Int)) ∧ w'.cell? ⟨b, off + k * 9 + 5, none⟩ = some (.int .i64 x.pt.vM) ∧ w'.cell? ⟨b, off + k * 9 + 6, none⟩ = some (.int .i64 (x.pt.vS : Int)) ∧ w'.cell? ⟨b, off + k * 9 + 7, none⟩ = some (.bool x.pt.timed) ∧ w'.cell? ⟨b, off + k * 9 + 8, none⟩ = some (.int .i64 x.pt.time)) ∧ (w'.cell? ⟨b, off + (k + 1) * 9, none⟩ = some (.slice y.A y.pt.labels.length y.c) ∧ w'.cell? ⟨b, off + (k + 1) * 9 + 1, none⟩ = some (.int .i64 (y.pt.role : Int)) ∧ w'.cell? ⟨b, off + (k + 1) * 9 + 2, none⟩ = some (.bool y.pt.inf) ∧ w'.cell? ⟨b, off + (k + 1) * 9 + 3, none⟩ = some (.int .i64 y.pt.bM) ∧ w'.cell? ⟨b, off + (k + 1) * 9 + 4, none⟩ = some (.int .i64 (y.pt.bS : Int)) ∧ w'.cell? ⟨b, off + (k + 1) * 9 + 5, none⟩ = some (.int .i64 y.pt.vM) ∧ w'.cell? ⟨b, off + (k + 1) * 9 + 6, none⟩ = some (.int .i64 (y.pt.vS : Int)) ∧ w'.cell? ⟨b, off + (k + 1) * 9 + 7, none⟩ = some (.bool y.pt.timed) ∧ w'.cell? ⟨b, off + (k + 1) * 9 + 8, none⟩ = some (.int .i64 y.pt.time)) ∧ Aw [] w w') (first | (with_reducible assumption) | (with_reducible exact hS0)) (first
        | (go_at_call 47; (with_reducible refine (hcmp _ (And.right (And.right (by with_reducible assumption)))).mono ?_); rintro en w5 ⟨rfl, hA5⟩; have S5 := HST.out _ (Aw.trans (And.right (And.right (by with_reducible assumption))) hA5)))
      rename_i hHeld
      obtain ⟨_, _, hY⟩ := hHeld
      go_wp2_with fail
      exact ⟨⟨k + 1, by simp, by omega, hY⟩, by (simp only [intOf]; omega)⟩
    · have hd : decide ((k : Int) + 1 < (n : Int)) = false := decide_eq_false (by omega)
      go_wp2_with fail
      go_ret
      exact ⟨rfl, hA⟩
/-- A family with its points in order, its own. -/
structure FamSO (w w' : World) (x : VFam) (vA : Option Addr) (vc : Nat) (qs : List VPnt) : Prop where
  pts : qs.map VPnt.pt = sortC cmpPntK (x.pts.map VPnt.pt)
  own : OwnPts w.heap.size w' (.slice vA qs.length vc) qs
  b : Below w.heap.size w w'
theorem rises_cmp {l : List VPnt} (h : Rises (ltOf pcf) l) : l.Pairwise fun x y => pcf x y ≤ 0 := by
  unfold Rises at h
  refine h.imp (fun {x y} h' => ?_)
  unfold ltOf at h'
  rw [decide_eq_false_iff_not, pcf_cmp.swap x y] at h'
  omega
/-- The sort of an owned row of points. -/
theorem psortO_any (A : Option Addr) (c : Nat) (qs : List VPnt) (B : Nat) (w : World) (ho : OwnPts B w (.slice A qs.length c) qs) (hok : ∀ y ∈ qs, PntOk y.pt) (hd : (qs.map VPnt.pt).Pairwise fun p q => cmpPntK p q ≠ 0) (hn : qs.length ≤ 1048576) :
    Calls Tryz.prog 46 #[.slice A qs.length c, .func (.func 47) #[] #[]] w fun e w' => e = .returned (.tuple #[]) ∧ ∃ qs', qs'.length = qs.length ∧ qs'.map VPnt.pt = sortC cmpPntK (qs.map VPnt.pt) ∧ (qs'.Pairwise fun x y => pcf x y < 0) ∧ (∀ y ∈ qs', PntOk y.pt) ∧ OwnPts B w' (.slice A qs'.length c) qs' ∧ Below B w w' := by
  rcases ho.own.2 with ⟨e, h0⟩ | ⟨g, cap, cur, e, hg, hh, hnc, hcm, hcs, htk⟩
  · have hq : qs = [] := List.length_eq_zero_iff.1 h0
    subst hq
    refine (psortOne A c (.func (.func 47) #[] #[]) 0 (by omega) w).mono fun e w' hh => ?_
    rw [hh.2]
    exact ⟨hh.1, [], rfl, by simp [sortC], List.Pairwise.nil, by simp, ho, Below.refl _ _⟩
  · injection e with eA e2 ec
    subst eA
    subst ec
    have hpl : ∀ y ∈ qs, PL w g y := fun y hy => by
      have hl := ho.lab y hy
      obtain ⟨A', c', e, hr⟩ := own_rws (f := labCell) (fun _ => rfl) hl rfl
      injection e with e1 e2 e3
      refine ⟨by rw [e1]; exact hr, hok y hy, fun b o e hb => ?_⟩
      rw [List.mem_singleton] at hb
      subst hb
      exact own_own_ne hl ho.own (by decide) b (by unfold VPnt.lv Value.ownBlock; rw [e]) rfl
    have hP : PRs w w B g c qs := ⟨by simpa using ho.own, Aw.refl _ _, fun i hi => by
      have hi' : i < qs.length := by simpa using hi
      rw [bang_list, List.getD_eq_getElem?_getD, List.getElem?_eq_getElem hi']
      exact hpl _ (List.getElem_mem hi')⟩
    refine (psortSN_any w B g c qs.length qs w hP rfl hn).mono fun e w' hh => ⟨hh.1, ?_⟩
    obtain ⟨l', hp, hr, hP'⟩ := hh.2
    have hle := rises_cmp hr
    have hdl : qs.Pairwise fun x y => pcf x y ≠ 0 := by rw [List.pairwise_map] at hd; exact hd
    have hdl' : l'.Pairwise fun x y => pcf x y ≠ 0 := (hp.symm.pairwise_iff (fun {x y} h' => by rw [pcf_cmp.swap x y]; omega)).1 hdl
    have hst := pcf_cmp.strict hle hdl'
    have hlen := hp.length_eq
    refine ⟨l', hlen, ?_, hst, fun y hy => hok y (hp.mem_iff.1 hy), ⟨?_, fun y hy => ?_⟩, ?_⟩
    · exact cmpPntK_cmp.sort_eq (hp.map _) (by rw [List.pairwise_map]; exact hst)
    · have := hP'.own
      simpa using this
    · exact own_aw (ho.lab y (hp.mem_iff.1 hy)) hP'.aw (fun b hb hm => by
        rw [List.mem_singleton] at hm; subst hm
        exact own_own_ne (ho.lab y (hp.mem_iff.1 hy)) ho.own (by decide) b hb rfl)
    · exact hP'.aw.bel_of (by simpa using hg) (Nat.le_of_lt_succ (by
        have := (ho.own.lt g rfl).2
        omega))
end
section
open Go.RowKit Go.Sort Go.Shelf
theorem own_pntsR {w : World} {B : Nat} {A : Option Addr} {c : Nat} {qs : List VPnt} (h : OwnPts B w (.slice A qs.length c) qs) : IsRows pntCell 9 w w.heap.size A qs.length qs ∧ ∀ y ∈ qs, IsRows labCell 2 w w.heap.size y.A y.pt.labels.length y.pt.labels := by
  refine ⟨?_, fun y hy => ?_⟩
  · obtain ⟨A', c', e, hr⟩ := own_rws (f := pntCell) (fun _ => rfl) h.own rfl
    injection e with e1 e2 e3
    subst e1
    exact hr
  · obtain ⟨A', c', e, hr⟩ := own_rws (f := labCell) (fun _ => rfl) (h.lab y hy) rfl
    injection e with e1 e2 e3
    rw [e1]
    exact hr
set_option maxRecDepth 100000 in
set_option maxHeartbeats 3200000 in
theorem famSort_any (x : VFam) (w : World) (hl : IsRows pntCell 9 w w.heap.size x.A x.pts.length x.pts) (hlab : ∀ y ∈ x.pts, IsRows labCell 2 w w.heap.size y.A y.pt.labels.length y.pt.labels ∧ y.pt.labels.length ≤ 1048576) (hok : ∀ y ∈ x.pts, PntOk y.pt) (hd : (x.pts.map VPnt.pt).Pairwise fun p q => cmpPntK p q ≠ 0) (hn : x.pts.length ≤ 1048576) :
    Calls Tryz.prog 23 #[.agg #[.string x.name, .int .i64 (x.kind : Int), .string x.unit, .string x.help, .slice x.A x.pts.length x.c]] w fun e w' => ∃ vA vc qs, e = .returned (.tuple #[.agg #[.string x.name, .int .i64 (x.kind : Int), .string x.unit, .string x.help, .slice vA qs.length vc], .bool true]) ∧ FamSO w w' x vA vc qs := by
  have hz : (w.alloc (.cells #[.string x.name, .int .i64 (x.kind : Int), .string x.unit, .string x.help, .slice x.A x.pts.length x.c] 68)).heap.size = w.heap.size + 1 := by simp
  have hA := ((Aw.refl [] w).alloc (.cells #[.string x.name, .int .i64 (x.kind : Int), .string x.unit, .string x.help, .slice x.A x.pts.length x.c] 68)).alloc (.cells #[.string ⟨#[]⟩, .int .i64 0, .string ⟨#[]⟩, .string ⟨#[]⟩, .slice none 0 0] 68)
  have hb1 := Blk.alloc (Blk.new w 68 #[.string x.name, .int .i64 (x.kind : Int), .string x.unit, .string x.help, .slice x.A x.pts.length x.c]) (.cells #[.string ⟨#[]⟩, .int .i64 0, .string ⟨#[]⟩, .string ⟨#[]⟩, .slice none 0 0] 68)
  have hb2 := Blk.new (w.alloc (.cells #[.string x.name, .int .i64 (x.kind : Int), .string x.unit, .string x.help, .slice x.A x.pts.length x.c] 68)) 68 #[.string ⟨#[]⟩, .int .i64 0, .string ⟨#[]⟩, .string ⟨#[]⟩, .slice none 0 0]
  rw [hz] at hb2
  have hsz := hA.size
  have kP := ownFam_any x _ ((hl.aw hA (Nat.le_refl _) (by simp)).more hsz) (fun y hy => ⟨((hlab y hy).1.aw hA (Nat.le_refl _) (by simp)).more hsz, (hlab y hy).2⟩) (by omega)
  have HOK : Hid (∀ q ∈ x.pts.map VPnt.pt, PntOk q) := Lib.hid (fun q hq => by
    obtain ⟨y, hy, rfl⟩ := List.mem_map.1 hq
    exact hok y hy)
  have HD := Lib.hid hd
  clear hz hl hlab hok hd
  go_enter Tryz.func23, Tryz.ntmps23
  go_upto_region 1 with (fail)
  generalize (w.alloc (.cells #[.string x.name, .int .i64 (x.kind : Int), .string x.unit, .string x.help, .slice x.A x.pts.length x.c] 68)).alloc (.cells #[.string ⟨#[]⟩, .int .i64 0, .string ⟨#[]⟩, .string ⟨#[]⟩, .slice none 0 0] 68) = W at *
  have l1 := Blk.lt hb1
  have l2 := Blk.lt hb2
  generalize hb : w.heap.size = b at *
  have c0 := (Blk.cell hb1 0).trans rfl; have c1 := (Blk.cell hb1 1).trans rfl; have c2 := (Blk.cell hb1 2).trans rfl; have c3 := (Blk.cell hb1 3).trans rfl; have c4 := (Blk.cell hb1 4).trans rfl
  go_upto_region 2 with (go_at_call 45; (with_reducible refine kP.mono ?_); rintro e w1 ⟨vA, vc, qs, rfl, hF⟩; have hb11 := Blk.below hb1 hF.b (by omega); have hb21 := Blk.below hb2 hF.b (by omega); have f0 := Blk.frozen hb11 0; have f1 := Blk.frozen hb11 1; have f2 := Blk.frozen hb11 2; have f3 := Blk.frozen hb11 3; have f4 := Blk.frozen hb11 4; have a0 := (Blk.cell hb11 0).trans rfl; have a1 := (Blk.cell hb11 1).trans rfl; have a2 := (Blk.cell hb11 2).trans rfl; have a3 := (Blk.cell hb11 3).trans rfl; have a4 := (Blk.cell hb11 4).trans rfl)
  have hq := hF.pts
  have hql : qs.length = x.pts.length := by have := congrArg List.length hq; simpa using this
  have hO := hF.own
  have hbw := hF.b
  have hb12 := (Blk.set_ (Blk.set_ (Blk.set_ (Blk.set_ (Blk.set_ hb11 0 (.string x.name)) 1 (.int .i64 (x.kind : Int))) 2 (.string x.unit)) 3 (.string x.help)) 4 (.slice vA qs.length vc))
  have hAb := ((((((Aw.refl [b] w1).setCell (p := ⟨b, 0, none⟩) (.inl (by simp)) (.string x.name)).setCell (p := ⟨b, 1, none⟩) (.inl (by simp)) (.int .i64 (x.kind : Int))).setCell (p := ⟨b, 2, none⟩) (.inl (by simp)) (.string x.unit)).setCell (p := ⟨b, 3, none⟩) (.inl (by simp)) (.string x.help)).setCell (p := ⟨b, 4, none⟩) (.inl (by simp)) (.slice vA qs.length vc))
  have hb22 := Blk.aw hb21 hAb (by simp)
  have hO2 := hO.aw hAb (by simp; omega)
  have hbl := (hA.none_bel.trans (hbw.mono (by omega))).trans (hAb.bel_of (B := w.heap.size) (by simp; omega) (by have := hbw.size; omega))
  clear hAb hF hO
  generalize (((((w1.setCell ⟨b, 0, none⟩ (.string x.name)).setCell ⟨b, 1, none⟩ (.int .i64 (x.kind : Int))).setCell ⟨b, 2, none⟩ (.string x.unit)).setCell ⟨b, 3, none⟩ (.string x.help)).setCell ⟨b, 4, none⟩ (.slice vA qs.length vc)) = w2 at *
  have kS := psortO_any vA vc qs W.heap.size w2 hO2 (fun y hy => HOK.out _ (by rw [← hq]; exact List.mem_map.2 ⟨y, hy, rfl⟩)) (by rw [hq]; exact HD.out) (by omega)
  have q4 := (Blk.cell hb12 4).trans rfl
  clear hb11 hb21 hb1 hb2 a0 a1 a2 a3 a4 f0 f1 f2 f3 f4 c0 c1 c2 c3 c4 kP
  rw [hq] at kS
  have HQL := Lib.hid hql
  clear hql
  go_upto_region 3 with (go_at_call 46; (with_reducible refine kS.mono ?_); rintro e w3 ⟨rfl, qs', hl3, hs3, hr3, hok3, hO3, hb3⟩)
  rw [← hl3] at hb12
  have hb13 := Blk.below hb12 hb3 (by omega)
  have hb23 := Blk.below hb22 hb3 (by omega)
  have q0 := (Blk.cell hb13 0).trans rfl; have q1 := (Blk.cell hb13 1).trans rfl; have q2 := (Blk.cell hb13 2).trans rfl; have q3 := (Blk.cell hb13 3).trans rfl; have q4 := (Blk.cell hb13 4).trans rfl
  obtain ⟨hrw, hlb⟩ := own_pntsR hO3
  have kR := risesYes vA qs'.length vc qs' w3 hrw hlb hok3 hr3 (by have := HQL.out; omega)
  have hbl3 := hbl.trans (hb3.mono (by omega))
  have hql' := hq
  clear kS hrw hlb hr3 hb12 hb22 hb3 hO2 hbl hql' hbw
  have Hs := Lib.hid hs3
  have Hq := Lib.hid hq
  clear hs3 hq hl3
  go_upto_region 5 with (go_at_call 48; (with_reducible refine kR.mono ?_); rintro e w4 ⟨rfl, hA4⟩; have hb14 := Blk.aw hb13 hA4 (by simp); have hb24 := Blk.aw hb23 hA4 (by simp))
  have q0 := (Blk.cell hb14 0).trans rfl; have q1 := (Blk.cell hb14 1).trans rfl; have q2 := (Blk.cell hb14 2).trans rfl; have q3 := (Blk.cell hb14 3).trans rfl; have q4 := (Blk.cell hb14 4).trans rfl
  have d0 := (Blk.cell hb24 0).trans rfl; have d1 := (Blk.cell hb24 1).trans rfl; have d2 := (Blk.cell hb24 2).trans rfl; have d3 := (Blk.cell hb24 3).trans rfl; have d4 := (Blk.cell hb24 4).trans rfl
  have g0 := Blk.frozen hb24 0; have g1 := Blk.frozen hb24 1; have g2 := Blk.frozen hb24 2; have g3 := Blk.frozen hb24 3; have g4 := Blk.frozen hb24 4
  have hA9 := ((((((Aw.refl [b + 1] w4).setCell (p := ⟨b + 1, 0, none⟩) (.inl (by simp)) (.string x.name)).setCell (p := ⟨b + 1, 1, none⟩) (.inl (by simp)) (.int .i64 (x.kind : Int))).setCell (p := ⟨b + 1, 2, none⟩) (.inl (by simp)) (.string x.unit)).setCell (p := ⟨b + 1, 3, none⟩) (.inl (by simp)) (.string x.help)).setCell (p := ⟨b + 1, 4, none⟩) (.inl (by simp)) (.slice vA qs'.length vc))
  go_wp2_with fail
  refine bodyPost_ret (v := .tuple #[.agg #[.string x.name, .int .i64 (x.kind : Int), .string x.unit, .string x.help, .slice vA qs'.length vc], .bool true]) (by simp [results, Tryz.results23, go_sem, d0, d1, d2, d3, d4]) rfl ⟨vA, vc, qs', rfl, Hs.out, ?_, ?_⟩
  · rw [hb]
    exact ((hO3.aw hA4 (by simp)).aw hA9 (by simp; omega)).low (by omega)
  · exact (hbl3.trans (hA4.none_bel.mono (by have := hbl3.size; omega))).trans (hA9.bel_of (fun k hk => by simp at hk; omega) (by have := hbl3.size; have := hA4.size; omega))
end
end Go.Proofs.YtcapbikelgcmmaaGreatDoor
