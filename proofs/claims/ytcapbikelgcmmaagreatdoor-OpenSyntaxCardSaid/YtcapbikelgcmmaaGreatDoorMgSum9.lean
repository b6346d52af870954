/- The walks of sum's wide numbers. The walks of sum's wide numbers: power. The walks of sum's wide numbers: compare. The walks of math/bits.Div64 at ten and of sum's tenth. The walks of sum's small functions on words: abs, of, shared, without; of dec.Good. The walk of sum.number's dec. The walks of sum: counted, numberOf, compare. The walk of sum.Compare. The walks of sum.Scaled (by thousands), stamp.Seconds. -/
import Derived.Test.YtcapbikelgcmmaaGreatDoorMgDec9
import Derived.Test.YtcapbikelgcmmaaGreatDoorShelfB
import Derived.Test.YtcapbikelgcmmaaGreatDoorMgPl9
import Derived.Shelf.Spec.BitsCarry
import Derived.BigQuiet
import Derived.Deep.QuietTactic
import Derived.Test.YtcapbikelgcmmaaGreatDoorShelfZ
import Derived.Deep.RegionHeld3
import Derived.ChangeKeysEq
import Derived.Deep.RegionLaw
namespace Go.Proofs.YtcapbikelgcmmaaGreatDoor
set_option linter.unusedVariables false
set_option linter.unusedSimpArgs false
open Go.RowKit
section
/-- math/bits.Add64 at this dump: the model stands in for it. -/
theorem add64_law (x y c : Nat) (hc : c ≤ 1) (w : World) :
    (callFunc 247 #[.int .u64 x, .int .u64 y, .int .u64 c]).run Tryz.prog w =
      .ok (.value (.tuple #[.int .u64 (((x + y + c) % 18446744073709551616 : Nat) : Int), .int .u64 (((x + y + c) / 18446744073709551616 : Nat) : Int)])) w := by
  rw [run_callFunc_extern Tryz.func247 (by kernel_rfl) (by kernel_rfl) (by kernel_rfl) (e := add64Entry) (by kernel_rfl), run_add64 x y c (by omega) (by omega) (by omega) (by omega)]
  simp only [Result.andThen]
  congr 5 <;> omega
/-- One round, its values as opaque numbers. -/
theorem round_T (x : Nat → Nat) (n k : Nat) (hx : ∀ k, x k < 18446744073709551616) (hn : n < 18446744073709551616) :
    ∃ hi lo cr : Nat, (∀ W, Calls Tryz.prog 246 #[.int .u64 (x k : Int), .int .u64 (n : Int)] W fun e w' => e = .returned (.tuple #[.int .u64 (hi : Int), .int .u64 (lo : Int)]) ∧ w' = W) ∧
      (∀ W, (callFunc 247 #[.int .u64 (lo : Int), .int .u64 (carT x n k : Int), .int .u64 0]).run Tryz.prog W = .ok (.value (.tuple #[.int .u64 (limT x n k : Int), .int .u64 (cr : Int)])) W) ∧
      IntKind.u64.wrap ((hi : Int) + cr) = (carT x n (k + 1) : Int) := by
  have hc := carT_lt x n hx hn
  have h1 := hc k
  have h2 := hc (k + 1)
  refine ⟨x k * n / 18446744073709551616, x k * n % 18446744073709551616, (x k * n % 18446744073709551616 + carT x n k) / 18446744073709551616, fun W => Tryz.bits_Mul64 (x k) n (hx k) hn W, fun W => ?_, ?_⟩
  · have h := add64_law (x k * n % 18446744073709551616) (carT x n k) 0 (by decide) W
    rw [Nat.add_zero] at h
    have e : (x k * n % 18446744073709551616 + carT x n k) % 18446744073709551616 = limT x n k := by unfold limT; omega
    rw [e] at h
    exact h
  · have e : x k * n / 18446744073709551616 + (x k * n % 18446744073709551616 + carT x n k) / 18446744073709551616 = carT x n (k + 1) := by
      show _ = (x k * n + carT x n k) / 18446744073709551616
      omega
    rw [← Int.natCast_add, e, IntKind.wrap_u64]
    omega
def cellsT (x : Nat → Nat) (n k : Nat) : Array Value := #[.int .u64 ((if 0 < k then limT x n 0 else x 0 : Nat) : Int), .int .u64 ((if 1 < k then limT x n 1 else x 1 : Nat) : Int), .int .u64 ((if 2 < k then limT x n 2 else x 2 : Nat) : Int), .int .u64 ((if 3 < k then limT x n 3 else x 3 : Nat) : Int)]
set_option maxRecDepth 100000 in
set_option maxHeartbeats 1600000 in
theorem times_any (x : Nat → Nat) (n : Nat) (w : World) (hx : ∀ k, x k < 18446744073709551616) (hn : n < 18446744073709551616) :
    Calls Tryz.prog 222 #[.agg (cellsT x n 0), .int .u64 (n : Int)] w fun e w' => e = .returned (.agg (cellsT x n 4)) ∧ Aw [] w w' := by
  have hc := carT_lt x n hx hn
  have kM := fun k W => Tryz.bits_Mul64 (x k) n (hx k) hn W
  show Calls Tryz.prog 222 #[.agg #[.int .u64 (x 0 : Int), .int .u64 (x 1 : Int), .int .u64 (x 2 : Int), .int .u64 (x 3 : Int)], .int .u64 (n : Int)] w _
  go_enter Tryz.func222, Tryz.ntmps222
  go_wp2_with fail
  have hB0 := (Blk.new w 198 (cellsT x n 0))
  have hB1 := (Blk.new (w.alloc (Obj.cells (cellsT x n 0) 198)) 198 #[.int .u64 0, .int .u64 0, .int .u64 0, .int .u64 0])
  have hz : (w.alloc (Obj.cells (cellsT x n 0) 198)).heap.size = w.heap.size + 1 := by simp
  rw [hz] at hB1
  go_loopw [5, 11] (fun c i wr => ∃ k : Nat, k ≤ 4 ∧ c = .int .u64 (carT x n k : Nat) ∧ i = .int .i64 k ∧ Blk wr w.heap.size 198 (cellsT x n k) ∧ Blk wr (w.heap.size + 1) 198 #[.int .u64 0, .int .u64 0, .int .u64 0, .int .u64 0] ∧ Aw [] w wr) (fun _ i _ => 4 - (intOf i).toNat)
  case atStart => exact ⟨0, by omega, rfl, rfl, Blk.aw hB0 ((Aw.refl [] _).alloc _) (by simp), hB1, ((Aw.refl _ _).alloc _).alloc _⟩
  case round =>
    obtain ⟨k, hk, rfl, rfl, hb0, hb1, hA⟩ := hrel
    clear hB0 hB1
    have d0 := (Blk.cell hb1 0).trans rfl
    have d1 := (Blk.cell hb1 1).trans rfl
    have d2 := (Blk.cell hb1 2).trans rfl
    have d3 := (Blk.cell hb1 3).trans rfl
    have f0 := Blk.frozen hb1 0
    have f1 := Blk.frozen hb1 1
    have f2 := Blk.frozen hb1 2
    have f3 := Blk.frozen hb1 3
    have e4 : k = 0 ∨ k = 1 ∨ k = 2 ∨ k = 3 ∨ k = 4 := by omega
    rcases e4 with rfl | rfl | rfl | rfl | rfl
    case inr.inr.inr.inr =>
      have hb : Blk wr w.heap.size 198 #[.int .u64 (limT x n 0 : Nat), .int .u64 (limT x n 1 : Nat), .int .u64 (limT x n 2 : Nat), .int .u64 (limT x n 3 : Nat)] := hb0
      have c0 := (Blk.cell hb 0).trans rfl
      have c1 := (Blk.cell hb 1).trans rfl
      have c2 := (Blk.cell hb 2).trans rfl
      have c3 := (Blk.cell hb 3).trans rfl
      go_wp2_with fail
      refine bodyPost_ret (v := .agg #[.int .u64 (limT x n 0 : Nat), .int .u64 (limT x n 1 : Nat), .int .u64 (limT x n 2 : Nat), .int .u64 (limT x n 3 : Nat)]) (by simp [results, Tryz.results222, go_sem, d0, d1, d2, d3]) rfl ⟨rfl, (((hA.setCell (.inr (Nat.le_succ _)) _).setCell (.inr (Nat.le_succ _)) _).setCell (.inr (Nat.le_succ _)) _).setCell (.inr (Nat.le_succ _)) _⟩
    case inl =>
      obtain ⟨hi, lo, cr, kM, kA, hw⟩ := round_T x n 0 hx hn
      have hb : Blk wr w.heap.size 198 #[.int .u64 (x 0 : Nat), .int .u64 (x 1 : Nat), .int .u64 (x 2 : Nat), .int .u64 (x 3 : Nat)] := hb0
      have c0 := (Blk.cell hb 0).trans rfl
      have g0 := Blk.frozen hb 0
      go_wp2_with first
        | (go_at_call 246; refine (kM _).mono ?_; rintro e w1 ⟨rfl, hw1⟩; rw [hw1]; clear hw1 w1)
        | (simp only [kA])
      exact ⟨⟨1, by omega, rfl, rfl, Blk.set_ hb 0 _, hb1.far (by simp) _, hA.setCell (.inr (Nat.le_refl _)) _⟩, by decide⟩
    case inr.inl =>
      obtain ⟨hi, lo, cr, kM, kA, hw⟩ := round_T x n 1 hx hn
      have hb : Blk wr w.heap.size 198 #[.int .u64 (limT x n 0 : Nat), .int .u64 (x 1 : Nat), .int .u64 (x 2 : Nat), .int .u64 (x 3 : Nat)] := hb0
      have c0 := (Blk.cell hb 1).trans rfl
      have g0 := Blk.frozen hb 1
      go_wp2_with first
        | (go_at_call 246; refine (kM _).mono ?_; rintro e w1 ⟨rfl, hw1⟩; rw [hw1]; clear hw1 w1)
        | (simp only [kA])
      exact ⟨⟨2, by omega, rfl, rfl, Blk.set_ hb 1 _, hb1.far (by simp) _, hA.setCell (.inr (Nat.le_refl _)) _⟩, by decide⟩
    case inr.inr.inl =>
      obtain ⟨hi, lo, cr, kM, kA, hw⟩ := round_T x n 2 hx hn
      have hb : Blk wr w.heap.size 198 #[.int .u64 (limT x n 0 : Nat), .int .u64 (limT x n 1 : Nat), .int .u64 (x 2 : Nat), .int .u64 (x 3 : Nat)] := hb0
      have c0 := (Blk.cell hb 2).trans rfl
      have g0 := Blk.frozen hb 2
      go_wp2_with first
        | (go_at_call 246; refine (kM _).mono ?_; rintro e w1 ⟨rfl, hw1⟩; rw [hw1]; clear hw1 w1)
        | (simp only [kA])
      exact ⟨⟨3, by omega, rfl, rfl, Blk.set_ hb 2 _, hb1.far (by simp) _, hA.setCell (.inr (Nat.le_refl _)) _⟩, by decide⟩
    case inr.inr.inr.inl =>
      obtain ⟨hi, lo, cr, kM, kA, hw⟩ := round_T x n 3 hx hn
      have hb : Blk wr w.heap.size 198 #[.int .u64 (limT x n 0 : Nat), .int .u64 (limT x n 1 : Nat), .int .u64 (limT x n 2 : Nat), .int .u64 (x 3 : Nat)] := hb0
      have c0 := (Blk.cell hb 3).trans rfl
      have g0 := Blk.frozen hb 3
      go_wp2_with first
        | (go_at_call 246; refine (kM _).mono ?_; rintro e w1 ⟨rfl, hw1⟩; rw [hw1]; clear hw1 w1)
        | (simp only [kA])
      exact ⟨⟨4, by omega, rfl, rfl, Blk.set_ hb 3 _, hb1.far (by simp) _, hA.setCell (.inr (Nat.le_refl _)) _⟩, by decide⟩
/-- A number as a wide number's words. -/
def wL (v : Nat) : Array Value := #[.int .u64 (xw v 0 : Nat), .int .u64 (xw v 1 : Nat), .int .u64 (xw v 2 : Nat), .int .u64 (xw v 3 : Nat)]
theorem times_wide (v n : Nat) (w : World) (hn : n < 18446744073709551616) :
    Calls Tryz.prog 222 #[.agg (wL v), .int .u64 (n : Int)] w fun e w' => e = .returned (.agg (wL (v * n))) ∧ Aw [] w w' := by
  have h := times_any (xw v) n w (xw_lt v) hn
  have e : cellsT (xw v) n 4 = wL (v * n) := by
    unfold wL
    rw [← limT_xw, ← limT_xw, ← limT_xw, ← limT_xw]
    rfl
  rw [e] at h
  exact h
end
section
set_option maxRecDepth 100000 in
set_option maxHeartbeats 1600000 in
theorem power_wide (v n t : Nat) (w : World) (hn : n < 18446744073709551616) (ht : t ≤ 4611686018427387904) :
    Calls Tryz.prog 185 #[.agg (wL v), .int .u64 (n : Int), .int .i64 (t : Int)] w fun e w' => e = .returned (.agg (wL (v * n ^ t))) ∧ Aw [] w w' := by
  have kT := fun v W => times_wide v n W hn
  unfold wL at kT
  obtain ⟨T, hT⟩ : ∃ T, v * n ^ t = T := ⟨_, rfl⟩
  rw [hT]
  have HT := Lib.hid hT
  clear hT
  have hB0 := (Blk.new w 198 (wL v))
  have hB1 := (Blk.new (w.alloc (Obj.cells (wL v) 198)) 198 #[.int .u64 0, .int .u64 0, .int .u64 0, .int .u64 0])
  have hz : (w.alloc (Obj.cells (wL v) 198)).heap.size = w.heap.size + 1 := by simp
  rw [hz] at hB1
  go_enter Tryz.func185, Tryz.ntmps185
  go_wp2_with fail
  go_loopw [8] (fun i wr => ∃ k u : Nat, k ≤ t ∧ i = .int .i64 k ∧ Hid (u = v * n ^ k) ∧ Blk wr w.heap.size 198 #[.int .u64 (xw u 0 : Nat), .int .u64 (xw u 1 : Nat), .int .u64 (xw u 2 : Nat), .int .u64 (xw u 3 : Nat)] ∧ Blk wr (w.heap.size + 1) 198 #[.int .u64 0, .int .u64 0, .int .u64 0, .int .u64 0] ∧ Aw [] w wr) (fun i _ => t - (intOf i).toNat)
  case atStart => exact ⟨0, v, by omega, rfl, Lib.hid (by simp), Blk.aw hB0 ((Aw.refl [] _).alloc _) (by simp), hB1, ((Aw.refl _ _).alloc _).alloc _⟩
  case round =>
    obtain ⟨k, u, hk, rfl, HU, hb0, hb1, hA⟩ := hrel
    clear hB0 hB1
    have c0 := (Blk.cell hb0 0).trans rfl
    have c1 := (Blk.cell hb0 1).trans rfl
    have c2 := (Blk.cell hb0 2).trans rfl
    have c3 := (Blk.cell hb0 3).trans rfl
    by_cases hlt : k < t
    · have hd : decide ((k : Int) < (t : Int)) = true := decide_eq_true (by omega)
      have hdn : decide (k < t) = true := decide_eq_true hlt
      have r1 : IntKind.i64.wrap ((k : Int) + 1) = (k : Int) + 1 := IntWalk.i64_in _ (by omega)
      have ku := fun W => kT u W
      clear kT
      go_wp2_with (go_at_call 222; refine (ku _).mono ?_; rintro e w1 ⟨rfl, hA1⟩; have hb2 := Blk.aw hb0 hA1 (by simp); have d0 := (Blk.cell hb2 0).trans rfl; have d1 := (Blk.cell hb2 1).trans rfl; have d2 := (Blk.cell hb2 2).trans rfl; have d3 := (Blk.cell hb2 3).trans rfl; have f0 := Blk.frozen hb2 0; have f1 := Blk.frozen hb2 1; have f2 := Blk.frozen hb2 2; have f3 := Blk.frozen hb2 3)
      have hb3 := (((Blk.aw hb1 hA1 (by simp)).far (p := ⟨w.heap.size, 0, none⟩) (by simp) (.int .u64 (xw (u * n) 0 : Nat))).far (p := ⟨w.heap.size, 1, none⟩) (by simp) (.int .u64 (xw (u * n) 1 : Nat))).far (p := ⟨w.heap.size, 2, none⟩) (by simp) (.int .u64 (xw (u * n) 2 : Nat)) |>.far (p := ⟨w.heap.size, 3, none⟩) (by simp) (.int .u64 (xw (u * n) 3 : Nat))
      refine ⟨⟨k + 1, u * n, hlt, by simp, Lib.hid (by rw [HU.out, Nat.pow_succ, Nat.mul_assoc]), ((((hb2.set_ 0 _).set_ 1 _).set_ 2 _).set_ 3 _), hb3, (((((hA.trans hA1).setCell (.inr (Nat.le_refl _)) _).setCell (.inr (Nat.le_refl _)) _).setCell (.inr (Nat.le_refl _)) _).setCell (.inr (Nat.le_refl _)) _)⟩, ?_⟩
      simp only [intOf]
      omega
    · have hd : decide ((k : Int) < (t : Int)) = false := decide_eq_false (by omega)
      have hdn : decide (k < t) = false := decide_eq_false hlt
      have d0 := (Blk.cell hb1 0).trans rfl
      have d1 := (Blk.cell hb1 1).trans rfl
      have d2 := (Blk.cell hb1 2).trans rfl
      have d3 := (Blk.cell hb1 3).trans rfl
      have f0 := Blk.frozen hb1 0
      have f1 := Blk.frozen hb1 1
      have f2 := Blk.frozen hb1 2
      have f3 := Blk.frozen hb1 3
      have HE : Hid (u = T) := Lib.hid (by rw [HU.out, ← HT.out, show k = t by omega])
      clear HU HT
      go_wp2_with fail
      refine bodyPost_ret (v := .agg (wL u)) (by simp [results, Tryz.results185, go_sem, d0, d1, d2, d3, wL]) rfl ⟨by rw [HE.out], (((hA.setCell (.inr (Nat.le_succ _)) _).setCell (.inr (Nat.le_succ _)) _).setCell (.inr (Nat.le_succ _)) _).setCell (.inr (Nat.le_succ _)) _⟩
end
section
set_option maxRecDepth 100000 in
set_option maxHeartbeats 1600000 in
theorem compare_any (x y : Nat → Nat) (w : World) :
    Calls Tryz.prog 186 #[.agg #[.int .u64 (x 0 : Nat), .int .u64 (x 1 : Nat), .int .u64 (x 2 : Nat), .int .u64 (x 3 : Nat)], .agg #[.int .u64 (y 0 : Nat), .int .u64 (y 1 : Nat), .int .u64 (y 2 : Nat), .int .u64 (y 3 : Nat)]] w fun e w' => e = .returned (.int .i64 (cmpN x y 4)) ∧ Aw [] w w' := by
  have hB0 := (Blk.new w 198 #[.int .u64 (x 0 : Nat), .int .u64 (x 1 : Nat), .int .u64 (x 2 : Nat), .int .u64 (x 3 : Nat)])
  have hB1 := (Blk.new (w.alloc (Obj.cells #[.int .u64 (x 0 : Nat), .int .u64 (x 1 : Nat), .int .u64 (x 2 : Nat), .int .u64 (x 3 : Nat)] 198)) 198 #[.int .u64 (y 0 : Nat), .int .u64 (y 1 : Nat), .int .u64 (y 2 : Nat), .int .u64 (y 3 : Nat)])
  have hz : (w.alloc (Obj.cells #[.int .u64 (x 0 : Nat), .int .u64 (x 1 : Nat), .int .u64 (x 2 : Nat), .int .u64 (x 3 : Nat)] 198)).heap.size = w.heap.size + 1 := by simp
  rw [hz] at hB1
  obtain ⟨T, hT⟩ : ∃ T, cmpN x y 4 = T := ⟨_, rfl⟩
  rw [hT]
  have HT := Lib.hid hT
  clear hT
  go_enter Tryz.func186, Tryz.ntmps186
  go_wp2_with fail
  go_loopw [5] (fun i wr => ∃ k : Nat, k ≤ 4 ∧ i = .int .i64 ((k : Int) - 1) ∧ Hid (cmpN x y k = T) ∧ Blk wr w.heap.size 198 #[.int .u64 (x 0 : Nat), .int .u64 (x 1 : Nat), .int .u64 (x 2 : Nat), .int .u64 (x 3 : Nat)] ∧ Blk wr (w.heap.size + 1) 198 #[.int .u64 (y 0 : Nat), .int .u64 (y 1 : Nat), .int .u64 (y 2 : Nat), .int .u64 (y 3 : Nat)] ∧ Aw [] w wr) (fun i _ => (intOf i + 1).toNat)
  case atStart => exact ⟨4, by omega, rfl, HT, Blk.aw hB0 ((Aw.refl [] _).alloc _) (by simp), hB1, ((Aw.refl _ _).alloc _).alloc _⟩
  case round =>
    obtain ⟨k, hk, rfl, HU, hb0, hb1, hA⟩ := hrel
    clear hB0 hB1
    have c0 := (Blk.cell hb0 0).trans rfl
    have c1 := (Blk.cell hb0 1).trans rfl
    have c2 := (Blk.cell hb0 2).trans rfl
    have c3 := (Blk.cell hb0 3).trans rfl
    have d0 := (Blk.cell hb1 0).trans rfl
    have d1 := (Blk.cell hb1 1).trans rfl
    have d2 := (Blk.cell hb1 2).trans rfl
    have d3 := (Blk.cell hb1 3).trans rfl
    have e4 : k = 0 ∨ k = 1 ∨ k = 2 ∨ k = 3 ∨ k = 4 := by omega
    rcases e4 with rfl | rfl | rfl | rfl | rfl
    case inl =>
      go_wp2_with fail
      refine bodyPost_ret (v := .int .i64 0) (by simp [results, Tryz.results186, go_sem]) rfl ⟨by rw [← HU.out]; rfl, hA⟩
    case inr.inl =>
      by_cases h1 : x 0 < y 0
      · have d5 : decide ((x 0 : Int) < (y 0 : Int)) = true := decide_eq_true (by omega)
        have d5n : decide (x 0 < y 0) = true := decide_eq_true h1
        have HE : Hid (T = -1) := Lib.hid (by rw [← HU.out]; simp [cmpN, h1])
        clear HU HT
        go_wp2_with fail
        go_quiet (fail)
        go_wp2_with fail
        exact bodyPost_ret (v := .int .i64 (-1)) (by simp [results, Tryz.results186, go_sem]) rfl ⟨by rw [HE.out], hA.drewN _⟩
      · have d5 : decide ((x 0 : Int) < (y 0 : Int)) = false := decide_eq_false (by omega)
        have d5n : decide (x 0 < y 0) = false := decide_eq_false h1
        by_cases h2 : y 0 < x 0
        · have d6 : decide ((y 0 : Int) < (x 0 : Int)) = true := decide_eq_true (by omega)
          have d6n : decide (y 0 < x 0) = true := decide_eq_true h2
          have HE : Hid (T = 1) := Lib.hid (by rw [← HU.out]; simp [cmpN, h1, h2])
          clear HU HT
          go_wp2_with fail
          go_quiet (fail)
          go_wp2_with fail
          go_quiet (fail)
          go_wp2_with fail
          exact bodyPost_ret (v := .int .i64 1) (by simp [results, Tryz.results186, go_sem]) rfl ⟨by rw [HE.out], (hA.drewN _).drewN _⟩
        · have d6 : decide ((y 0 : Int) < (x 0 : Int)) = false := decide_eq_false (by omega)
          have d6n : decide (y 0 < x 0) = false := decide_eq_false h2
          have HE : Hid (cmpN x y 0 = T) := Lib.hid (by rw [← HU.out]; simp [cmpN, h1, h2])
          clear HU HT
          go_wp2_with fail
          go_quiet (fail)
          go_wp2_with fail
          go_quiet (fail)
          go_wp2_with fail
          exact ⟨⟨0, by omega, rfl, HE, hb0.drewN _, hb1.drewN _, hA.drewN _⟩, by decide⟩
    case inr.inr.inl =>
      by_cases h1 : x 1 < y 1
      · have d5 : decide ((x 1 : Int) < (y 1 : Int)) = true := decide_eq_true (by omega)
        have d5n : decide (x 1 < y 1) = true := decide_eq_true h1
        have HE : Hid (T = -1) := Lib.hid (by rw [← HU.out]; simp [cmpN, h1])
        clear HU HT
        go_wp2_with fail
        go_quiet (fail)
        go_wp2_with fail
        exact bodyPost_ret (v := .int .i64 (-1)) (by simp [results, Tryz.results186, go_sem]) rfl ⟨by rw [HE.out], hA.drewN _⟩
      · have d5 : decide ((x 1 : Int) < (y 1 : Int)) = false := decide_eq_false (by omega)
        have d5n : decide (x 1 < y 1) = false := decide_eq_false h1
        by_cases h2 : y 1 < x 1
        · have d6 : decide ((y 1 : Int) < (x 1 : Int)) = true := decide_eq_true (by omega)
          have d6n : decide (y 1 < x 1) = true := decide_eq_true h2
          have HE : Hid (T = 1) := Lib.hid (by rw [← HU.out]; simp [cmpN, h1, h2])
          clear HU HT
          go_wp2_with fail
          go_quiet (fail)
          go_wp2_with fail
          go_quiet (fail)
          go_wp2_with fail
          exact bodyPost_ret (v := .int .i64 1) (by simp [results, Tryz.results186, go_sem]) rfl ⟨by rw [HE.out], (hA.drewN _).drewN _⟩
        · have d6 : decide ((y 1 : Int) < (x 1 : Int)) = false := decide_eq_false (by omega)
          have d6n : decide (y 1 < x 1) = false := decide_eq_false h2
          have HE : Hid (cmpN x y 1 = T) := Lib.hid (by rw [← HU.out]; simp [cmpN, h1, h2])
          clear HU HT
          go_wp2_with fail
          go_quiet (fail)
          go_wp2_with fail
          go_quiet (fail)
          go_wp2_with fail
          exact ⟨⟨1, by omega, rfl, HE, hb0.drewN _, hb1.drewN _, hA.drewN _⟩, by decide⟩
    case inr.inr.inr.inl =>
      by_cases h1 : x 2 < y 2
      · have d5 : decide ((x 2 : Int) < (y 2 : Int)) = true := decide_eq_true (by omega)
        have d5n : decide (x 2 < y 2) = true := decide_eq_true h1
        have HE : Hid (T = -1) := Lib.hid (by rw [← HU.out]; simp [cmpN, h1])
        clear HU HT
        go_wp2_with fail
        go_quiet (fail)
        go_wp2_with fail
        exact bodyPost_ret (v := .int .i64 (-1)) (by simp [results, Tryz.results186, go_sem]) rfl ⟨by rw [HE.out], hA.drewN _⟩
      · have d5 : decide ((x 2 : Int) < (y 2 : Int)) = false := decide_eq_false (by omega)
        have d5n : decide (x 2 < y 2) = false := decide_eq_false h1
        by_cases h2 : y 2 < x 2
        · have d6 : decide ((y 2 : Int) < (x 2 : Int)) = true := decide_eq_true (by omega)
          have d6n : decide (y 2 < x 2) = true := decide_eq_true h2
          have HE : Hid (T = 1) := Lib.hid (by rw [← HU.out]; simp [cmpN, h1, h2])
          clear HU HT
          go_wp2_with fail
          go_quiet (fail)
          go_wp2_with fail
          go_quiet (fail)
          go_wp2_with fail
          exact bodyPost_ret (v := .int .i64 1) (by simp [results, Tryz.results186, go_sem]) rfl ⟨by rw [HE.out], (hA.drewN _).drewN _⟩
        · have d6 : decide ((y 2 : Int) < (x 2 : Int)) = false := decide_eq_false (by omega)
          have d6n : decide (y 2 < x 2) = false := decide_eq_false h2
          have HE : Hid (cmpN x y 2 = T) := Lib.hid (by rw [← HU.out]; simp [cmpN, h1, h2])
          clear HU HT
          go_wp2_with fail
          go_quiet (fail)
          go_wp2_with fail
          go_quiet (fail)
          go_wp2_with fail
          exact ⟨⟨2, by omega, rfl, HE, hb0.drewN _, hb1.drewN _, hA.drewN _⟩, by decide⟩
    case inr.inr.inr.inr =>
      by_cases h1 : x 3 < y 3
      · have d5 : decide ((x 3 : Int) < (y 3 : Int)) = true := decide_eq_true (by omega)
        have d5n : decide (x 3 < y 3) = true := decide_eq_true h1
        have HE : Hid (T = -1) := Lib.hid (by rw [← HU.out]; simp [cmpN, h1])
        clear HU HT
        go_wp2_with fail
        go_quiet (fail)
        go_wp2_with fail
        exact bodyPost_ret (v := .int .i64 (-1)) (by simp [results, Tryz.results186, go_sem]) rfl ⟨by rw [HE.out], hA.drewN _⟩
      · have d5 : decide ((x 3 : Int) < (y 3 : Int)) = false := decide_eq_false (by omega)
        have d5n : decide (x 3 < y 3) = false := decide_eq_false h1
        by_cases h2 : y 3 < x 3
        · have d6 : decide ((y 3 : Int) < (x 3 : Int)) = true := decide_eq_true (by omega)
          have d6n : decide (y 3 < x 3) = true := decide_eq_true h2
          have HE : Hid (T = 1) := Lib.hid (by rw [← HU.out]; simp [cmpN, h1, h2])
          clear HU HT
          go_wp2_with fail
          go_quiet (fail)
          go_wp2_with fail
          go_quiet (fail)
          go_wp2_with fail
          exact bodyPost_ret (v := .int .i64 1) (by simp [results, Tryz.results186, go_sem]) rfl ⟨by rw [HE.out], (hA.drewN _).drewN _⟩
        · have d6 : decide ((y 3 : Int) < (x 3 : Int)) = false := decide_eq_false (by omega)
          have d6n : decide (y 3 < x 3) = false := decide_eq_false h2
          have HE : Hid (cmpN x y 3 = T) := Lib.hid (by rw [← HU.out]; simp [cmpN, h1, h2])
          clear HU HT
          go_wp2_with fail
          go_quiet (fail)
          go_wp2_with fail
          go_quiet (fail)
          go_wp2_with fail
          exact ⟨⟨3, by omega, rfl, HE, hb0.drewN _, hb1.drewN _, hA.drewN _⟩, by decide⟩
theorem compare_wide (v u : Nat) (w : World) :
    Calls Tryz.prog 186 #[.agg (wL v), .agg (wL u)] w fun e w' => e = .returned (.int .i64 (cmpZ (v % wMod) (u % wMod))) ∧ Aw [] w w' := by
  have h := compare_any (xw v) (xw u) w
  rw [cmpN_xw] at h
  exact h
end
section
theorem wr_u64 : ∀ n : Int, 0 ≤ n → n < 2 ^ 64 → IntKind.u64.wrap n = n := fun n h0 h1 => by rw [IntKind.wrap_u64]; omega
theorem wr_lt {n : Int} {m : Nat} (h : n = m) (h1 : m < 18446744073709551616) : IntKind.u64.wrap n = m := by
  rw [h, IntKind.wrap_u64]; omega
theorem wr_mod (n : Int) : ∃ q : Int, IntKind.u64.wrap n = n - 18446744073709551616 * q := ⟨n / 18446744073709551616, by rw [IntKind.wrap_u64]; omega⟩
theorem wr_ex {n : Int} {m : Nat} (q : Int) (h : n = m + 18446744073709551616 * q) (h1 : m < 18446744073709551616) : IntKind.u64.wrap n = m := by
  rw [h, IntKind.wrap_u64]; omega
theorem td_un {U q r : Nat} (h : U = q * 2684354560 + r) (hr : r < 2684354560) : (U : Int).tdiv 2684354560 = (q : Int) := by rw [Int.tdiv_eq_ediv_of_nonneg (by omega)]; omega
theorem dv_un {U q1 rh : Nat} (h1 : q1 = U / 2684354560) (h2 : rh = U % 2684354560) : U = q1 * 2684354560 + rh ∧ rh < 2684354560 := by omega
set_option maxRecDepth 100000 in
set_option maxHeartbeats 3200000 in
theorem div10_zero (lo : Nat) (hl : lo < 18446744073709551616) (w : World) :
    Calls Tryz.prog 257 #[.int .u64 0, .int .u64 (lo : Int), .int .u64 10] w fun e w' => e = .returned (.tuple #[.int .u64 ((lo / 10 : Nat) : Int), .int .u64 ((lo % 10 : Nat) : Int)]) ∧ Aw [] w w' := by
  have e1 : ((lo : Int)).tdiv 10 = ((lo / 10 : Nat) : Int) := by rw [Int.tdiv_eq_ediv_of_nonneg (by omega)]; omega
  have e2 : ((lo : Int)).tmod 10 = ((lo % 10 : Nat) : Int) := by rw [Int.tmod_eq_emod_of_nonneg (by omega)]; omega
  go_enter Tryz.func257, Tryz.ntmps257
  go_wp2_with fail
  go_quiet (fail)
  go_wp2_with fail
  go_ret2
  exact ⟨rfl, (Aw.refl _ _).drewN _⟩
/-- The steps of the long division, each as the walk spells it. -/
theorem div10_facts {U T a q1 rh u2 q0 r0 Q R : Nat} (p1 : U = q1 * 2684354560 + rh) (p2 : rh < 2684354560) (hu2 : u2 = rh * 4294967296 + a) (p3 : u2 = q0 * 2684354560 + r0) (p4 : r0 < 2684354560) (p5 : a < 4294967296) (p7 : q1 < 4294967296) (p8 : u2 < 11529215046068469760) (p9 : q0 < 4294967296) (p11 : Q = q1 * 4294967296 + q0) (p12 : r0 = 268435456 * R) (p13 : Q < 18446744073709551616) :
    (U : Int).tdiv 2684354560 = (q1 : Int) ∧ IntKind.u64.wrap (q1 : Int) = (q1 : Int) ∧ IntKind.u64.wrap ((q1 : Int) * 2684354560) = (q1 : Int) * 2684354560 ∧
    IntKind.u64.wrap ((U : Int) - (q1 : Int) * 2684354560) = (rh : Int) ∧ decide ((4294967296 : Int) ≤ (q1 : Int)) = false ∧ IntKind.u64.wrap (4294967296 * (rh : Int)) = 4294967296 * (rh : Int) ∧
    IntKind.u64.wrap (4294967296 * (rh : Int) + (a : Int)) = (u2 : Int) ∧ decide ((u2 : Int) < 0) = false ∧
    (u2 : Int).tdiv 2684354560 = (q0 : Int) ∧ IntKind.u64.wrap (q0 : Int) = (q0 : Int) ∧ IntKind.u64.wrap ((q0 : Int) * 2684354560) = (q0 : Int) * 2684354560 ∧
    IntKind.u64.wrap ((u2 : Int) - (q0 : Int) * 2684354560) = (r0 : Int) ∧ decide ((4294967296 : Int) ≤ (q0 : Int)) = false ∧ IntKind.u64.wrap (4294967296 * (r0 : Int)) = 4294967296 * (r0 : Int) ∧
    decide (4294967296 * (r0 : Int) < 0) = false ∧ IntKind.u64.wrap ((q1 : Int) * 4294967296) = (q1 : Int) * 4294967296 ∧ IntKind.u64.wrap ((q1 : Int) * 4294967296 + (q0 : Int)) = (Q : Int) := by
  exact ⟨td_un p1 p2, wr_lt rfl (by omega), wr_u64 _ (by omega) (by omega), wr_lt (by omega) (by omega), decide_eq_false (by omega), wr_u64 _ (by omega) (by omega), wr_lt (by omega) (by omega), decide_eq_false (by omega),
    td_un p3 p4, wr_lt rfl (by omega), wr_u64 _ (by omega) (by omega), wr_lt (by omega) (by omega), decide_eq_false (by omega), wr_u64 _ (by omega) (by omega), decide_eq_false (by omega), wr_u64 _ (by omega) (by omega), wr_lt (by omega) (by omega)⟩
theorem div10_d {U a q1 rh u2 : Nat} (p1 : U = q1 * 2684354560 + rh) (hu2 : u2 = rh * 4294967296 + a) (p8 : u2 < 11529215046068469760) :
    IntKind.u64.wrap (IntKind.u64.wrap (IntKind.u64.wrap ((U : Int) * 4294967296) + (a : Int)) - IntKind.u64.wrap ((q1 : Int) * 11529215046068469760)) = (u2 : Int) := by
  obtain ⟨k1, e1⟩ := wr_mod ((U : Int) * 4294967296)
  rw [e1]
  obtain ⟨k2, e2⟩ := wr_mod ((U : Int) * 4294967296 - 18446744073709551616 * k1 + (a : Int))
  obtain ⟨k3, e3⟩ := wr_mod ((q1 : Int) * 11529215046068469760)
  rw [e2, e3]
  clear e1 e2 e3
  exact wr_ex (k3 - k1 - k2) (by omega) (by omega)
theorem div10_k {a q0 r0 u2 P : Nat} (p3 : u2 = q0 * 2684354560 + r0) (hP : P = r0 * 4294967296) (p4 : r0 < 2684354560) :
    IntKind.u64.wrap (IntKind.u64.wrap ((u2 : Int) * 4294967296) - IntKind.u64.wrap ((q0 : Int) * 11529215046068469760)) = (P : Int) := by
  obtain ⟨k1, e1⟩ := wr_mod ((u2 : Int) * 4294967296)
  obtain ⟨k3, e3⟩ := wr_mod ((q0 : Int) * 11529215046068469760)
  rw [e1, e3]
  clear e1 e3
  exact wr_ex (k3 - k1) (by omega) (by omega)
set_option maxRecDepth 100000 in
set_option maxHeartbeats 3200000 in
theorem div10_more (hi lo : Nat) (h1 : 1 ≤ hi) (h9 : hi ≤ 9) (hl : lo < 18446744073709551616) (w : World) :
    Calls Tryz.prog 257 #[.int .u64 (hi : Int), .int .u64 (lo : Int), .int .u64 10] w fun e w' => e = .returned (.tuple #[.int .u64 (((hi * 18446744073709551616 + lo) / 10 : Nat) : Int), .int .u64 (((hi * 18446744073709551616 + lo) % 10 : Nat) : Int)]) ∧ Aw [] w w' := by
  have z0 : ((hi : Int) == 0) = false := by rw [beq_eq_false_iff_ne]; omega
  have z1 : decide ((10 : Int) ≤ hi) = false := decide_eq_false (by omega)
  have kZ := fun W => Tryz.bits_LeadingZeros64 10 W (by omega) (by omega)
  have eZ : (64 - (Lib.bitLen (10 : Int).toNat : Int)) = 60 := by decide
  rw [eZ] at kZ
  clear eZ
  obtain ⟨U, hU⟩ : ∃ U : Nat, U = hi * 1152921504606846976 + lo / 16 := ⟨_, rfl⟩
  obtain ⟨T, hT⟩ : ∃ T : Nat, T = lo % 16 * 1152921504606846976 := ⟨_, rfl⟩
  obtain ⟨a, ha⟩ : ∃ a : Nat, a = lo % 16 * 268435456 := ⟨_, rfl⟩
  obtain ⟨q1, hq1⟩ : ∃ q1 : Nat, q1 = U / 2684354560 := ⟨_, rfl⟩
  obtain ⟨rh, hrh⟩ : ∃ rh : Nat, rh = U % 2684354560 := ⟨_, rfl⟩
  obtain ⟨u2, hu2⟩ : ∃ u2 : Nat, u2 = rh * 4294967296 + a := ⟨_, rfl⟩
  obtain ⟨q0, hq0⟩ : ∃ q0 : Nat, q0 = u2 / 2684354560 := ⟨_, rfl⟩
  obtain ⟨r0, hr0⟩ : ∃ r0 : Nat, r0 = u2 % 2684354560 := ⟨_, rfl⟩
  obtain ⟨Q, hQ⟩ : ∃ Q : Nat, Q = (hi * 18446744073709551616 + lo) / 10 := ⟨_, rfl⟩
  obtain ⟨R, hR⟩ : ∃ R : Nat, R = (hi * 18446744073709551616 + lo) % 10 := ⟨_, rfl⟩
  rw [← hQ, ← hR]
  obtain ⟨P, hP⟩ : ∃ P : Nat, P = r0 * 4294967296 := ⟨_, rfl⟩
  obtain ⟨p1, p2⟩ := dv_un hq1 hrh
  obtain ⟨p3, p4⟩ := dv_un hq0 hr0
  have p5 : a < 4294967296 := by omega
  have p6 : U < 11529215046068469760 := by omega
  have p7 : q1 < 4294967296 := by omega
  have p8 : u2 < 11529215046068469760 := by omega
  have p9 : q0 < 4294967296 := by omega
  have p10 : hi * 18446744073709551616 + lo = 16 * U + lo % 16 := by omega
  have p11 : Q = q1 * 4294967296 + q0 ∧ r0 = 268435456 * R := by omega
  have p13 : Q < 18446744073709551616 := by omega
  have k5 : (P : Int) / 1152921504606846976 = (R : Int) := by omega
  have b4 : (T : Int) / 4294967296 = (a : Int) := by omega
  have b1 : bits .or .u64 ((hi : Int) * 1152921504606846976) ((lo : Int) / 16) = (U : Int) := by
    rw [bits_join .u64 64 (by decide) wr_u64 60 _ _ (by omega) (by omega) (by omega) (by omega) (by omega) (by omega)]
    omega
  have b2 : bits .and .u64 11529215046068469760 4294967295 = 0 := by decide
  have b3 : IntKind.u64.wrap ((lo : Int) * 1152921504606846976) = (T : Int) := by clear b1 b2; rw [IntKind.wrap_u64]; omega
  have b5 : bits .and .u64 (T : Int) 4294967295 = 0 := by
    clear b1 b2 b3
    have := bits_mask .u64 64 (by decide) wr_u64 32 (by decide) (T : Int) (by omega) (by omega)
    have e : ((2 : Int) ^ 32 - 1) = 4294967295 := by decide
    rw [e] at this
    rw [this]; clear this; omega
  obtain ⟨c1, c2, c3, c4, c5, c6, c7, c8, f1, f2, f3, f4, f5, f6, f7, g1, g2⟩ := div10_facts (T := T) p1 p2 hu2 p3 p4 p5 p7 p8 p9 p11.1 p11.2 p13
  have d4 := div10_d p1 hu2 p8
  have k4 := div10_k (a := a) p3 hP p4
  generalize hd1 : IntKind.u64.wrap ((U : Int) * 4294967296) = d1 at d4
  generalize hd2 : IntKind.u64.wrap (d1 + (a : Int)) = d2 at d4
  generalize hd3 : IntKind.u64.wrap ((q1 : Int) * 11529215046068469760) = d3 at d4
  have k2 : IntKind.u64.wrap (IntKind.u64.wrap ((u2 : Int) * 4294967296)) = IntKind.u64.wrap ((u2 : Int) * 4294967296) := by rw [IntKind.wrap_u64, IntKind.wrap_u64]; exact Int.emod_emod_of_dvd _ (Int.dvd_refl _)
  generalize hk1 : IntKind.u64.wrap ((u2 : Int) * 4294967296) = k1 at k4 k2
  generalize hk3 : IntKind.u64.wrap ((q0 : Int) * 11529215046068469760) = k3 at k4
  clear hU hT hq1 hrh hu2 hq0 hr0 hQ hR hP ha p1 p3 p10 p11
  go_enter Tryz.func257, Tryz.ntmps257
  go_wp2_with (go_at_call 262; refine (kZ _).mono ?_; rintro e w1 ⟨rfl, hw1⟩; rw [hw1]; clear hw1 w1)
  refine wp_loop_rounds 1 ?_
  rw [rounds_succ]
  go_wp2_with fail
  refine wp_loop_rounds 1 ?_
  rw [rounds_succ]
  go_wp2_with fail
  go_ret2
  exact ⟨rfl, Aw.refl _ _⟩
theorem div10_any (hi lo : Nat) (h9 : hi < 10) (hl : lo < 18446744073709551616) (w : World) :
    Calls Tryz.prog 257 #[.int .u64 (hi : Int), .int .u64 (lo : Int), .int .u64 10] w fun e w' => e = .returned (.tuple #[.int .u64 (((hi * 18446744073709551616 + lo) / 10 : Nat) : Int), .int .u64 (((hi * 18446744073709551616 + lo) % 10 : Nat) : Int)]) ∧ Aw [] w w' := by
  by_cases h0 : hi = 0
  · subst h0
    rw [Nat.zero_mul, Nat.zero_add]
    exact div10_zero lo hl w
  · exact div10_more hi lo (by omega) (by omega) hl w
/-- The words behind k steps from the top. -/
def cellsQ (q x : Nat → Nat) (k : Nat) : Array Value := #[.int .u64 ((if 3 < k then q 3 else x 0 : Nat) : Int), .int .u64 ((if 2 < k then q 2 else x 1 : Nat) : Int), .int .u64 ((if 1 < k then q 1 else x 2 : Nat) : Int), .int .u64 ((if 0 < k then q 0 else x 3 : Nat) : Int)]
set_option maxRecDepth 100000 in
set_option maxHeartbeats 3200000 in
theorem tenth_of (x q r : Nat → Nat) (w : World) (hr0 : r 0 = 0) (kD : ∀ k W, Calls Tryz.prog 257 #[.int .u64 (r k : Nat), .int .u64 (x (3 - k) : Nat), .int .u64 10] W fun e w' => e = .returned (.tuple #[.int .u64 (q k : Nat), .int .u64 (r (k + 1) : Nat)]) ∧ Aw [] W w') :
    Calls Tryz.prog 245 #[.agg (cellsQ q x 0)] w fun e w' => e = .returned (.tuple #[.agg (cellsQ q x 4), .int .u64 (r 4 : Nat)]) ∧ Aw [] w w' := by
  have kD0 := kD 0
  have kD1 := kD 1
  have kD2 := kD 2
  have kD3 := kD 3
  simp only [Nat.sub_zero, Nat.reduceSub, Nat.reduceAdd] at kD0 kD1 kD2 kD3
  clear kD
  show Calls Tryz.prog 245 #[.agg #[.int .u64 (x 0 : Int), .int .u64 (x 1 : Int), .int .u64 (x 2 : Int), .int .u64 (x 3 : Int)]] w _
  have hB0 := (Blk.new w 198 (cellsQ q x 0))
  have hB1 := (Blk.new (w.alloc (Obj.cells (cellsQ q x 0) 198)) 198 #[.int .u64 0, .int .u64 0, .int .u64 0, .int .u64 0])
  have hz : (w.alloc (Obj.cells (cellsQ q x 0) 198)).heap.size = w.heap.size + 1 := by simp
  rw [hz] at hB1
  have HR0 := Lib.hid hr0
  clear hr0
  go_enter Tryz.func245, Tryz.ntmps245
  go_wp2_with fail
  go_loopw [4, 5] (fun c i wr => ∃ k : Nat, k ≤ 4 ∧ c = .int .u64 (r k : Nat) ∧ i = .int .i64 (3 - (k : Int)) ∧ Blk wr w.heap.size 198 (cellsQ q x k) ∧ Blk wr (w.heap.size + 1) 198 #[.int .u64 0, .int .u64 0, .int .u64 0, .int .u64 0] ∧ Aw [] w wr) (fun _ i _ => (intOf i + 1).toNat)
  case atStart => exact ⟨0, by omega, by rw [HR0.out]; rfl, rfl, Blk.aw hB0 ((Aw.refl [] _).alloc _) (by simp), hB1, ((Aw.refl _ _).alloc _).alloc _⟩
  case round =>
    obtain ⟨k, hk, rfl, rfl, hb0, hb1, hA⟩ := hrel
    clear hB0 hB1 HR0
    have d0 := (Blk.cell hb1 0).trans rfl
    have d1 := (Blk.cell hb1 1).trans rfl
    have d2 := (Blk.cell hb1 2).trans rfl
    have d3 := (Blk.cell hb1 3).trans rfl
    have f0 := Blk.frozen hb1 0
    have f1 := Blk.frozen hb1 1
    have f2 := Blk.frozen hb1 2
    have f3 := Blk.frozen hb1 3
    have e4 : k = 0 ∨ k = 1 ∨ k = 2 ∨ k = 3 ∨ k = 4 := by omega
    rcases e4 with rfl | rfl | rfl | rfl | rfl
    case inr.inr.inr.inr =>
      have hb : Blk wr w.heap.size 198 #[.int .u64 (q 3 : Nat), .int .u64 (q 2 : Nat), .int .u64 (q 1 : Nat), .int .u64 (q 0 : Nat)] := hb0
      have c0 := (Blk.cell hb 0).trans rfl
      have c1 := (Blk.cell hb 1).trans rfl
      have c2 := (Blk.cell hb 2).trans rfl
      have c3 := (Blk.cell hb 3).trans rfl
      go_wp2_with fail
      refine bodyPost_ret (v := .tuple #[.agg #[.int .u64 (q 3 : Nat), .int .u64 (q 2 : Nat), .int .u64 (q 1 : Nat), .int .u64 (q 0 : Nat)], .int .u64 (r 4 : Nat)]) (by simp [results, Tryz.results245, go_sem, d0, d1, d2, d3]) rfl ⟨rfl, (((hA.setCell (.inr (Nat.le_succ _)) _).setCell (.inr (Nat.le_succ _)) _).setCell (.inr (Nat.le_succ _)) _).setCell (.inr (Nat.le_succ _)) _⟩
    case inl =>
      have hb : Blk wr w.heap.size 198 #[.int .u64 (x 0 : Nat), .int .u64 (x 1 : Nat), .int .u64 (x 2 : Nat), .int .u64 (x 3 : Nat)] := hb0
      have c0 := (Blk.cell hb 3).trans rfl
      have g0 := Blk.frozen hb 3
      go_wp2_with (go_at_call 257; (with_reducible refine (kD0 _).mono ?_); rintro e w1 ⟨rfl, hA1⟩; have hc := Blk.aw hb hA1 (by simp); have c1 := (Blk.cell hc 3).trans rfl; have g1 := Blk.frozen hc 3)
      exact ⟨⟨1, by omega, rfl, rfl, Blk.set_ hc 3 _, (Blk.aw hb1 hA1 (by simp)).far (by simp) _, (hA.trans hA1).setCell (.inr (Nat.le_refl _)) _⟩, by decide⟩
    case inr.inl =>
      have hb : Blk wr w.heap.size 198 #[.int .u64 (x 0 : Nat), .int .u64 (x 1 : Nat), .int .u64 (x 2 : Nat), .int .u64 (q 0 : Nat)] := hb0
      have c0 := (Blk.cell hb 2).trans rfl
      have g0 := Blk.frozen hb 2
      go_wp2_with (go_at_call 257; (with_reducible refine (kD1 _).mono ?_); rintro e w1 ⟨rfl, hA1⟩; have hc := Blk.aw hb hA1 (by simp); have c1 := (Blk.cell hc 2).trans rfl; have g1 := Blk.frozen hc 2)
      exact ⟨⟨2, by omega, rfl, rfl, Blk.set_ hc 2 _, (Blk.aw hb1 hA1 (by simp)).far (by simp) _, (hA.trans hA1).setCell (.inr (Nat.le_refl _)) _⟩, by decide⟩
    case inr.inr.inl =>
      have hb : Blk wr w.heap.size 198 #[.int .u64 (x 0 : Nat), .int .u64 (x 1 : Nat), .int .u64 (q 1 : Nat), .int .u64 (q 0 : Nat)] := hb0
      have c0 := (Blk.cell hb 1).trans rfl
      have g0 := Blk.frozen hb 1
      go_wp2_with (go_at_call 257; (with_reducible refine (kD2 _).mono ?_); rintro e w1 ⟨rfl, hA1⟩; have hc := Blk.aw hb hA1 (by simp); have c1 := (Blk.cell hc 1).trans rfl; have g1 := Blk.frozen hc 1)
      exact ⟨⟨3, by omega, rfl, rfl, Blk.set_ hc 1 _, (Blk.aw hb1 hA1 (by simp)).far (by simp) _, (hA.trans hA1).setCell (.inr (Nat.le_refl _)) _⟩, by decide⟩
    case inr.inr.inr.inl =>
      have hb : Blk wr w.heap.size 198 #[.int .u64 (x 0 : Nat), .int .u64 (q 2 : Nat), .int .u64 (q 1 : Nat), .int .u64 (q 0 : Nat)] := hb0
      have c0 := (Blk.cell hb 0).trans rfl
      have g0 := Blk.frozen hb 0
      go_wp2_with (go_at_call 257; (with_reducible refine (kD3 _).mono ?_); rintro e w1 ⟨rfl, hA1⟩; have hc := Blk.aw hb hA1 (by simp); have c1 := (Blk.cell hc 0).trans rfl; have g1 := Blk.frozen hc 0)
      exact ⟨⟨4, by omega, rfl, rfl, Blk.set_ hc 0 _, (Blk.aw hb1 hA1 (by simp)).far (by simp) _, (hA.trans hA1).setCell (.inr (Nat.le_refl _)) _⟩, by decide⟩
theorem tenth_any (x : Nat → Nat) (w : World) (hx : ∀ k, x k < 18446744073709551616) :
    Calls Tryz.prog 245 #[.agg (cellsQ (quoT x) x 0)] w fun e w' => e = .returned (.tuple #[.agg (cellsQ (quoT x) x 4), .int .u64 (rstT x 4 : Nat)]) ∧ Aw [] w w' :=
  tenth_of x (quoT x) (rstT x) w rfl fun k W => div10_any (rstT x k) (x (3 - k)) (rstT_lt x k) (hx _) W
theorem cellsQ0 (q x : Nat → Nat) : cellsQ q x 0 = #[.int .u64 (x 0 : Nat), .int .u64 (x 1 : Nat), .int .u64 (x 2 : Nat), .int .u64 (x 3 : Nat)] := rfl
theorem cellsQ4 (q x : Nat → Nat) : cellsQ q x 4 = #[.int .u64 (q 3 : Nat), .int .u64 (q 2 : Nat), .int .u64 (q 1 : Nat), .int .u64 (q 0 : Nat)] := rfl
theorem wL_mod (v : Nat) : wL (v % wMod) = wL v := by
  unfold wL
  rw [xw_mod v 0 (by omega), xw_mod v 1 (by omega), xw_mod v 2 (by omega), xw_mod v 3 (by omega)]
theorem tenth_lt (u : Nat) (w : World) (hu : u < wMod) :
    Calls Tryz.prog 245 #[.agg (wL u)] w fun e w' => e = .returned (.tuple #[.agg (wL (u / 10)), .int .u64 ((u % 10 : Nat) : Int)]) ∧ Aw [] w w' := by
  have h := tenth_any (xw u) w (xw_lt _)
  have q0 : quoT (xw u) 0 = xw (u / 10) 3 := quo_xw u hu 0 (by omega)
  have q1 : quoT (xw u) 1 = xw (u / 10) 2 := quo_xw u hu 1 (by omega)
  have q2 : quoT (xw u) 2 = xw (u / 10) 1 := quo_xw u hu 2 (by omega)
  have q3 : quoT (xw u) 3 = xw (u / 10) 0 := quo_xw u hu 3 (by omega)
  rw [cellsQ0, cellsQ4, q0, q1, q2, q3, rst_all u hu] at h
  exact h
theorem tenth_wide (v : Nat) (w : World) :
    Calls Tryz.prog 245 #[.agg (wL v)] w fun e w' => e = .returned (.tuple #[.agg (wL (v % wMod / 10)), .int .u64 ((v % wMod % 10 : Nat) : Int)]) ∧ Aw [] w w' := by
  have h := tenth_lt (v % wMod) w (Nat.mod_lt _ (Nat.pow_pos (by decide)))
  rw [wL_mod] at h
  exact h
end
section
theorem abs_any (m : Int) (h0 : -9223372036854775808 ≤ m) (h1 : m ≤ 9223372036854775807) (w : World) :
    Calls Tryz.prog 184 #[.int .i64 m] w fun e w' => e = .returned (.int .u64 (absN m : Nat)) ∧ w' = w := by
  by_cases hm : m < 0
  · have d : decide (m < 0) = true := decide_eq_true hm
    have e1 : IntKind.u64.wrap (-IntKind.u64.wrap m) = ((absN m : Nat) : Int) := by unfold absN; rw [IntKind.wrap_u64, IntKind.wrap_u64]; omega
    generalize absN m = A at *
    go_enter Tryz.func184, Tryz.ntmps184
    go_wp2_with fail
    go_ret
    exact ⟨rfl, rfl⟩
  · have d : decide (m < 0) = false := decide_eq_false hm
    have e1 : IntKind.u64.wrap m = ((absN m : Nat) : Int) := by unfold absN; rw [IntKind.wrap_u64]; omega
    generalize absN m = A at *
    go_enter Tryz.func184, Tryz.ntmps184
    go_wp2_with fail
    go_ret
    exact ⟨rfl, rfl⟩
theorem of_any (n : Nat) (w : World) :
    Calls Tryz.prog 183 #[.int .u64 (n : Int)] w fun e w' => e = .returned (.agg #[.int .u64 (n : Int), .int .u64 0, .int .u64 0, .int .u64 0]) ∧ Aw [] w w' := by
  go_enter Tryz.func183, Tryz.ntmps183
  go_wp2_with fail
  exact bodyPost_ret (v := .agg #[.int .u64 (n : Int), .int .u64 0, .int .u64 0, .int .u64 0]) (by simp [results, Tryz.results183, go_sem]) rfl ⟨rfl, (Aw.refl [] w).alloc _⟩
theorem wL_word (n : Nat) (h : n < 18446744073709551616) : #[.int .u64 (n : Int), .int .u64 0, .int .u64 0, .int .u64 0] = wL n := by
  have e0 : xw n 0 = n := by unfold xw; rw [Nat.pow_zero, Nat.div_one]; exact Nat.mod_eq_of_lt h
  have e1 : ∀ k, 1 ≤ k → xw n k = 0 := fun k hk => by
    unfold xw
    rw [Nat.div_eq_of_lt]
    exact Nat.lt_of_lt_of_le h (Nat.le_self_pow (by omega) _)
  unfold wL
  rw [e0, e1 1 (by omega), e1 2 (by omega), e1 3 (by omega)]
  rfl
theorem of_wide (n : Nat) (h : n < 18446744073709551616) (w : World) :
    Calls Tryz.prog 183 #[.int .u64 (n : Int)] w fun e w' => e = .returned (.agg (wL n)) ∧ Aw [] w w' := by
  have k := of_any n w
  rw [wL_word n h] at k
  exact k
set_option maxRecDepth 100000 in
set_option maxHeartbeats 1600000 in
theorem dgood_any (M S : Int) (h0 : -9223372036854775808 ≤ M) (h1 : M ≤ 9223372036854775807) (w : World) :
    Calls Tryz.prog 182 #[.agg #[.int .i64 M, .int .i64 S]] w fun e w' => e = .returned (.bool (goodD M S)) ∧ Aw [] w w' := by
  have HD : Hid (goodD M S = (decide (0 ≤ S) && (decide (S ≤ 18) && (!(M == -9223372036854775808) && (S == 0 || !(M.tmod 10 == 0)))))) := Lib.hid rfl
  have e1 : IntKind.i64.wrap (M.tmod 10) = M.tmod 10 := IntWalk.i64_in _ (by have := Int.tmod_lt_of_pos M (show (0 : Int) < 10 by decide); have := Int.lt_tmod_of_pos M (show (0 : Int) < 10 by decide); omega)
  have s3 : (M != -9223372036854775808) = !(M == -9223372036854775808) := rfl
  have s5 : (M.tmod 10 != 0) = !(M.tmod 10 == 0) := rfl
  generalize goodD M S = R at *
  generalize hb1 : decide (0 ≤ S) = b1 at *
  generalize hb2 : decide (S ≤ 18) = b2 at *
  generalize hb3 : (M == -9223372036854775808) = b3 at *
  generalize hb4 : (S == 0) = b4 at *
  generalize hb5 : (M.tmod 10 == 0) = b5 at *
  have hA := (Aw.refl [] w).alloc (.cells #[.int .i64 M, .int .i64 S] 71)
  cases b1 <;> cases b2 <;> cases b3 <;> cases b4 <;> cases b5
  all_goals
    go_enter Tryz.func182, Tryz.ntmps182
    go_wp2_with fail
    go_ret
    exact ⟨ret_bool (by rw [HD.out]; rfl), hA⟩
end
section
/-- What a decimal and a bool are told as. -/
def DecE (R : (Int × Nat) × Bool) (e : Ending) : Prop := e = .returned (.tuple #[.agg #[.int .i64 R.1.1, .int .i64 (R.1.2 : Int)], .bool R.2])
theorem eqWide (a0 a1 a2 a3 b0 b1 b2 b3 : Int) (w : World) : (binOp .eql 198 (.agg #[.int .u64 a0, .int .u64 a1, .int .u64 a2, .int .u64 a3]) (.agg #[.int .u64 b0, .int .u64 b1, .int .u64 b2, .int .u64 b3])).run Tryz.prog w = .ok (.bool (a0 == b0 && (a1 == b1 && (a2 == b2 && a3 == b3)))) w := by
  have hu : Tryz.prog.underlying 198 = some (.array 4 165) := by kernel_rfl
  have hc : Tryz.prog.cellsOf 165 = 1 := by kernel_rfl
  have h8 : Tryz.prog.underlying 165 = some (.int .u64) := by kernel_rfl
  obtain ⟨i, hi⟩ : ∃ i, Tryz.prog.info? 165 = some i := Option.isSome_iff_exists.1 (by kernel_rfl)
  have he : Tryz.prog.plainKey 165 = true := by kernel_rfl
  have hp : ∀ (xs : Array Value) (k : Nat) (v : Value), xs[k]? = some v → (part 165 xs k).run Tryz.prog w = .ok v w := fun xs k v h => run_part_plain w he h
  have hq : ∀ a b : Int, (Op.equalIn 9999 165 (.int .u64 a) (.int .u64 b)).run Tryz.prog w = .ok (a == b) w := fun a b => run_equalIn_int (d := 9998) (w := w) 165 .u64 .u64 a b h8
  have hr : List.range 4 = [0, 1, 2, 3] := by decide
  have h : (Op.equalIn 10000 198 (.agg #[.int .u64 a0, .int .u64 a1, .int .u64 a2, .int .u64 a3]) (.agg #[.int .u64 b0, .int .u64 b1, .int .u64 b2, .int .u64 b3])).run Tryz.prog w = .ok (a0 == b0 && (a1 == b1 && (a2 == b2 && a3 == b3))) w := by
    rw [run_equalIn_array w 9999 _ _ hu hi, hc, hr]
    simp only [Op.eqItems, Sem.run_bind, Nat.mul_one]
    rw [hp _ 0 (.int .u64 a0) rfl, Result.andThen_ok, hp _ 0 (.int .u64 b0) rfl, Result.andThen_ok, hq, Result.andThen_ok]
    cases (a0 == b0) <;> simp [Sem.run_bind]
    rw [hp _ 1 (.int .u64 a1) rfl, Result.andThen_ok, hp _ 1 (.int .u64 b1) rfl, Result.andThen_ok, hq, Result.andThen_ok]
    cases (a1 == b1) <;> simp [Sem.run_bind]
    rw [hp _ 2 (.int .u64 a2) rfl, Result.andThen_ok, hp _ 2 (.int .u64 b2) rfl, Result.andThen_ok, hq, Result.andThen_ok]
    cases (a2 == b2) <;> simp [Sem.run_bind]
    rw [hp _ 3 (.int .u64 a3) rfl, Result.andThen_ok, hp _ 3 (.int .u64 b3) rfl, Result.andThen_ok, hq, Result.andThen_ok]
    cases (a3 == b3) <;> simp [Sem.run_bind]
  simp [go_sem, h]
theorem nat_beq0 (a : Nat) : ((a : Int) == 0) = (a == 0) := by
  apply bcl; rw [beq_iff_eq, beq_iff_eq]; omega
theorem four_zero (u : Nat) (h : u < 18446744073709551616 ^ 4) : (u % 18446744073709551616 = 0 ∧ u / 18446744073709551616 % 18446744073709551616 = 0 ∧ u / 18446744073709551616 / 18446744073709551616 % 18446744073709551616 = 0 ∧ u / 18446744073709551616 / 18446744073709551616 / 18446744073709551616 % 18446744073709551616 = 0) ↔ u = 0 := by
  have e4 : (18446744073709551616 : Nat) ^ 4 = 18446744073709551616 * 18446744073709551616 * 18446744073709551616 * 18446744073709551616 := by rfl
  rw [e4] at h
  obtain ⟨a, ha⟩ : ∃ a, a = u / 18446744073709551616 := ⟨_, rfl⟩
  obtain ⟨b, hb⟩ : ∃ b, b = a / 18446744073709551616 := ⟨_, rfl⟩
  obtain ⟨c, hc⟩ : ∃ c, c = b / 18446744073709551616 := ⟨_, rfl⟩
  rw [← ha, ← hb, ← hc]
  constructor
  · rintro ⟨h0, h1, h2, h3⟩
    have hc0 : c < 18446744073709551616 := by omega
    have hc1 : c = 0 := by omega
    have hb1 : b = 0 := by omega
    have ha1 : a = 0 := by omega
    omega
  · rintro rfl
    have ha1 : a = 0 := by omega
    have hb1 : b = 0 := by omega
    have hc1 : c = 0 := by omega
    omega
theorem xw_zero (v : Nat) : ((xw v 0 : Int) == 0 && ((xw v 1 : Int) == 0 && ((xw v 2 : Int) == 0 && (xw v 3 : Int) == 0))) = (v % wMod == 0) := by
  rw [nat_beq0, nat_beq0, nat_beq0, nat_beq0, ← xw_mod v 0 (by omega), ← xw_mod v 1 (by omega), ← xw_mod v 2 (by omega), ← xw_mod v 3 (by omega)]
  have hlt : v % wMod < 18446744073709551616 ^ 4 := Nat.mod_lt _ (Nat.pow_pos (by decide))
  generalize v % wMod = u at *
  have h := four_zero u hlt
  have x0 : xw u 0 = u % 18446744073709551616 := by unfold xw; rw [Nat.pow_zero, Nat.div_one]
  have x1 : xw u 1 = u / 18446744073709551616 % 18446744073709551616 := by unfold xw; rw [Nat.pow_one]
  have x2 : xw u 2 = u / 18446744073709551616 / 18446744073709551616 % 18446744073709551616 := by unfold xw; rw [Nat.div_div_eq_div_mul, Nat.pow_two]
  have x3 : xw u 3 = u / 18446744073709551616 / 18446744073709551616 / 18446744073709551616 % 18446744073709551616 := by unfold xw; rw [Nat.div_div_eq_div_mul, Nat.div_div_eq_div_mul, Nat.pow_succ, Nat.pow_two]
  rw [← x0, ← x1, ← x2, ← x3] at h
  apply bcl
  simp only [Bool.and_eq_true, beq_iff_eq]
  exact h
/-- The words of a number that stands in a block. -/
def Nm (w : World) (n : Nat) (neg : Bool) (u t : Nat) : Prop := Blk w n 200 #[.bool neg, .int .u64 (xw u 0 : Nat), .int .u64 (xw u 1 : Nat), .int .u64 (xw u 2 : Nat), .int .u64 (xw u 3 : Nat), .int .i64 (t : Int)]
theorem Nm.facts {w : World} {n : Nat} {neg : Bool} {u t : Nat} (h : Nm w n neg u t) : (w.cell? ⟨n, 0, none⟩ = some (.bool neg) ∧ w.cell? ⟨n, 1, none⟩ = some (.int .u64 (xw u 0 : Nat)) ∧ w.cell? ⟨n, 2, none⟩ = some (.int .u64 (xw u 1 : Nat)) ∧ w.cell? ⟨n, 3, none⟩ = some (.int .u64 (xw u 2 : Nat)) ∧ w.cell? ⟨n, 4, none⟩ = some (.int .u64 (xw u 3 : Nat)) ∧ w.cell? ⟨n, 5, none⟩ = some (.int .i64 (t : Int))) ∧
    w.frozen? ⟨n, 1, none⟩ = false ∧ w.frozen? ⟨n, 2, none⟩ = false ∧ w.frozen? ⟨n, 3, none⟩ = false ∧ w.frozen? ⟨n, 4, none⟩ = false ∧ w.frozen? ⟨n, 5, none⟩ = false :=
  ⟨⟨(Blk.cell h 0).trans rfl, (Blk.cell h 1).trans rfl, (Blk.cell h 2).trans rfl, (Blk.cell h 3).trans rfl, (Blk.cell h 4).trans rfl, (Blk.cell h 5).trans rfl⟩, Blk.frozen h 1, Blk.frozen h 2, Blk.frozen h 3, Blk.frozen h 4, Blk.frozen h 5⟩
/-- Where the number and the result lie. -/
structure NR (w0 w : World) (neg : Bool) (u t : Nat) : Prop where
  nm : Nm w w0.heap.size neg u t
  rs : Blk w (w0.heap.size + 1) 71 #[.int .i64 0, .int .i64 0]
  aw : Aw [] w0 w
theorem NR.call {w0 w w' : World} {neg : Bool} {u t : Nat} (h : NR w0 w neg u t) (k : Aw [] w w') : NR w0 w' neg u t := ⟨Blk.aw h.nm k (by simp), Blk.aw h.rs k (by simp), h.aw.trans k⟩
theorem NR.drewN {w0 w : World} {neg : Bool} {u t : Nat} (h : NR w0 w neg u t) (n : Nat) : NR w0 (w.drewN n) neg u t := ⟨Blk.drewN h.nm n, Blk.drewN h.rs n, h.aw.drewN n⟩
theorem NR.drew {w0 w : World} {neg : Bool} {u t : Nat} (h : NR w0 w neg u t) : NR w0 w.drew neg u t := ⟨Blk.drew h.nm, Blk.drew h.rs, h.aw.drew⟩
theorem NR.fs {w0 w : World} {neg : Bool} {u t : Nat} (h : NR w0 w neg u t) : (w.cell? ⟨w0.heap.size, 1, none⟩ = some (.int .u64 (xw u 0 : Nat)) ∧ w.cell? ⟨w0.heap.size, 2, none⟩ = some (.int .u64 (xw u 1 : Nat)) ∧ w.cell? ⟨w0.heap.size, 3, none⟩ = some (.int .u64 (xw u 2 : Nat)) ∧ w.cell? ⟨w0.heap.size, 4, none⟩ = some (.int .u64 (xw u 3 : Nat)) ∧ w.cell? ⟨w0.heap.size, 5, none⟩ = some (.int .i64 (t : Int))) ∧ NR w0 w neg u t :=
  ⟨h.nm.facts.1.2, h⟩
theorem NR.rsf {w0 w : World} {neg : Bool} {u t : Nat} (h : NR w0 w neg u t) : (w.cell? ⟨w0.heap.size + 1, 0, none⟩ = some (.int .i64 0) ∧ w.cell? ⟨w0.heap.size + 1, 1, none⟩ = some (.int .i64 0)) ∧ w.frozen? ⟨w0.heap.size + 1, 0, none⟩ = false ∧ w.frozen? ⟨w0.heap.size + 1, 1, none⟩ = false :=
  ⟨⟨(Blk.cell h.rs 0).trans rfl, (Blk.cell h.rs 1).trans rfl⟩, Blk.frozen h.rs 0, Blk.frozen h.rs 1⟩
theorem big_lt : 9223372036854775807 < wMod := by
  unfold wMod
  have : (18446744073709551616 : Nat) ^ 1 ≤ 18446744073709551616 ^ 4 := Nat.pow_le_pow_right (by decide) (by decide)
  rw [Nat.pow_one] at this
  omega
theorem NR.alloc {w0 w : World} {neg : Bool} {u t : Nat} (h : NR w0 w neg u t) (o : Obj) : NR w0 (w.alloc o) neg u t := ⟨Blk.alloc h.nm o, Blk.alloc h.rs o, h.aw.alloc o⟩
theorem NR.mod {w0 w : World} {neg : Bool} {v t : Nat} (h : NR w0 w neg v t) : NR w0 w neg (v % wMod) t := by
  refine ⟨?_, h.rs, h.aw⟩
  have k := h.nm
  unfold Nm at k ⊢
  rw [xw_mod v 0 (by omega), xw_mod v 1 (by omega), xw_mod v 2 (by omega), xw_mod v 3 (by omega)]
  exact k
theorem NR.put {w0 w : World} {neg : Bool} {u t : Nat} (h : NR w0 w neg u t) (u' t' : Nat) : NR w0 (((((w.setCell ⟨w0.heap.size, 1, none⟩ (.int .u64 (xw u' 0 : Nat))).setCell ⟨w0.heap.size, 2, none⟩ (.int .u64 (xw u' 1 : Nat))).setCell ⟨w0.heap.size, 3, none⟩ (.int .u64 (xw u' 2 : Nat))).setCell ⟨w0.heap.size, 4, none⟩ (.int .u64 (xw u' 3 : Nat))).setCell ⟨w0.heap.size, 5, none⟩ (.int .i64 (t' : Int))) neg u' t' :=
  ⟨((((h.nm.set_ 1 (.int .u64 (xw u' 0 : Nat))).set_ 2 (.int .u64 (xw u' 1 : Nat))).set_ 3 (.int .u64 (xw u' 2 : Nat))).set_ 4 (.int .u64 (xw u' 3 : Nat))).set_ 5 (.int .i64 (t' : Int)),
    ((((h.rs.far (by simp) _).far (by simp) _).far (by simp) _).far (by simp) _).far (by simp) _,
    ((((h.aw.setCell (.inr (Nat.le_refl _)) _).setCell (.inr (Nat.le_refl _)) _).setCell (.inr (Nat.le_refl _)) _).setCell (.inr (Nat.le_refl _)) _).setCell (.inr (Nat.le_refl _)) _⟩
theorem xw_word (u : Nat) (h : u < 18446744073709551616) : xw u 0 = u := by
  unfold xw; rw [Nat.pow_zero, Nat.div_one]; exact Nat.mod_eq_of_lt h
theorem strip_stop {u t : Nat} (h : ¬ u % 10 = 0) : stripN u (t + 1) = (u, t + 1) := by rw [stripN, if_neg h]
theorem strip_go {u t : Nat} (h : u % 10 = 0) : stripN u (t + 1) = stripN (u / 10) t := by rw [stripN, if_pos h]
theorem NR.start (w : World) (neg : Bool) (v s : Nat) : NR w ((w.alloc (.cells #[.bool neg, .int .u64 (xw v 0 : Nat), .int .u64 (xw v 1 : Nat), .int .u64 (xw v 2 : Nat), .int .u64 (xw v 3 : Nat), .int .i64 (s : Int)] 200)).alloc (.cells #[.int .i64 0, .int .i64 0] 71)) neg v s :=
  ⟨Blk.alloc (Blk.new w _ _) _, by
    have := Blk.new (w.alloc (.cells #[.bool neg, .int .u64 (xw v 0 : Nat), .int .u64 (xw v 1 : Nat), .int .u64 (xw v 2 : Nat), .int .u64 (xw v 3 : Nat), .int .i64 (s : Int)] 200)) 71 #[.int .i64 0, .int .i64 0]
    simpa using this, ((Aw.refl _ _).alloc _).alloc _⟩
def tOf (w : World) (n : Nat) : Nat := match w.cell? ⟨n, 5, none⟩ with | some (.int _ t) => t.toNat | _ => 0
theorem NR.tOf {w0 w : World} {neg : Bool} {u t : Nat} (h : NR w0 w neg u t) : tOf w w0.heap.size = t := by
  unfold Proofs.YtcapbikelgcmmaaGreatDoor.tOf; rw [h.nm.facts.1.2.2.2.2.2]; simp
set_option maxRecDepth 100000 in
set_option maxHeartbeats 3200000 in
theorem ndec_any (neg : Bool) (v s : Nat) (hs : s ≤ 4611686018427387904) (w : World) :
    Calls Tryz.prog 220 #[.agg #[.bool neg, .int .u64 (xw v 0 : Nat), .int .u64 (xw v 1 : Nat), .int .u64 (xw v 2 : Nat), .int .u64 (xw v 3 : Nat), .int .i64 (s : Int)]] w fun e w' => DecE (decN neg v s) e ∧ Aw [] w w' := by
  have kO : ∀ W, Calls Tryz.prog 183 #[.int .u64 0] W fun e w' => e = .returned (.agg #[.int .u64 0, .int .u64 0, .int .u64 0, .int .u64 0]) ∧ Aw [] W w' := fun W => of_any 0 W
  have hN := NR.start w neg v s
  have ew := fun w => eqWide (xw v 0) (xw v 1) (xw v 2) (xw v 3) 0 0 0 0 w
  have hxz := xw_zero v
  rw [hxz] at ew
  clear hxz
  generalize hz : (v % wMod == 0) = z at ew
  have HZ := Lib.hid hz
  clear hz
  have hsz : w.heap.size = w.heap.size := rfl
  go_enter Tryz.func220, Tryz.ntmps220
  go_wp2_with fail
  generalize (w.alloc (.cells #[.bool neg, .int .u64 (xw v 0 : Nat), .int .u64 (xw v 1 : Nat), .int .u64 (xw v 2 : Nat), .int .u64 (xw v 3 : Nat), .int .i64 (s : Int)] 200)).alloc (.cells #[.int .i64 0, .int .i64 0] 71) = W0 at *
  go_region_held3 (fun w' => (w'.cell? ⟨w.heap.size, 1, none⟩ = some (.int .u64 (xw v 0 : Nat)) ∧ w'.cell? ⟨w.heap.size, 2, none⟩ = some (.int .u64 (xw v 1 : Nat)) ∧ w'.cell? ⟨w.heap.size, 3, none⟩ = some (.int .u64 (xw v 2 : Nat)) ∧ w'.cell? ⟨w.heap.size, 4, none⟩ = some (.int .u64 (xw v 3 : Nat)) ∧ w'.cell? ⟨w.heap.size, 5, none⟩ = some (.int .i64 (s : Int))) ∧ NR w w' neg v s) (first | assumption | exact hN.drew.fs) (first
    | (go_at_call 183; (with_reducible refine (kO _).mono ?_); rintro e w1 ⟨rfl, hA1⟩; have S1 := (NR.call (And.right (by assumption)) hA1).fs))
  rename_i hHeld
  obtain ⟨_, hM⟩ := hHeld
  cases z
  case true =>
    have HD : Hid (decN neg v s = ((0, 0), true)) := Lib.hid (by unfold decN; rw [if_pos (beq_iff_eq.1 HZ.out)])
    clear HZ hN
    obtain ⟨⟨e0, e1⟩, q0, q1⟩ := hM.rsf
    go_wp2_with fail
    refine bodyPost_ret (v := .tuple #[.agg #[.int .i64 0, .int .i64 0], .bool true]) (by simp [results, Tryz.results220, go_sem, e0, e1]) rfl ⟨by rw [HD.out]; rfl, ?_⟩
    exact (hM.aw.setCell (.inr (Nat.le_succ _)) _).setCell (.inr (Nat.le_succ _)) _
  case false =>
    have hz0 : Hid (¬ v % wMod = 0) := Lib.hid (beq_eq_false_iff_ne.1 HZ.out)
    clear HZ hN
    have hlt0 : v % wMod < wMod := Nat.mod_lt _ (Nat.pow_pos (by decide))
    have HU0 := Lib.hid hlt0
    have hM0 := hM.mod
    obtain ⟨x0, hx0⟩ : ∃ x0, x0 = v % wMod := ⟨_, rfl⟩
    rw [← hx0] at hM0 HU0
    have HS0 : Hid (stripN (v % wMod) s = stripN x0 s) := Lib.hid (by rw [hx0])
    clear hM hlt0 hx0 ew hsz
    go_wp2_with fail
    go_loopw [5] (fun _ wr => ∃ u t : Nat, t ≤ s ∧ NR w wr neg u t ∧ Hid (u < wMod) ∧ Hid (stripN (v % wMod) s = stripN u t)) (fun _ wr => tOf wr w.heap.size)
    case atStart => exact ⟨x0, s, Nat.le_refl _, hM0, HU0, HS0⟩
    case round =>
      clear hM0 HU0 HS0
      obtain ⟨u, t, hts, hM, HU, HS⟩ := hrel
      obtain ⟨⟨d0, d1, d2, d3, d4, d5⟩, g1, g2, g3, g4, g5⟩ := hM.nm.facts
      have hm0 := hM.tOf
      by_cases ht0 : t = 0
      · have HE : Hid (stripN (v % wMod) s = (u, t)) := Lib.hid (by rw [HS.out, ht0]; rfl)
        have dt : decide ((0 : Int) < (t : Int)) = false := decide_eq_false (by omega)
        have dtn : decide (0 < t) = false := decide_eq_false (by omega)
        clear HS hm0 ht0
        go_wp2_with fail
        clear dt dtn d0 d1 d2 d3 d4 d5 g1 g2 g3 g4 g5
        have hlt := HU.out
        have HE2 := HE.out
        obtain ⟨⟨d0, d1, d2, d3, d4, d5⟩, _⟩ := hM.nm.facts
        obtain ⟨⟨e0, e1⟩, q0, q1⟩ := hM.rsf
        by_cases h18 : 18 < t
        · have d18 : decide ((18 : Int) < (t : Int)) = true := decide_eq_true (by omega)
          have d18n : decide (18 < t) = true := decide_eq_true h18
          have HD : Hid (decN neg v s = ((0, 0), false)) := Lib.hid (by unfold decN; rw [if_neg hz0.out, HE2, if_pos (.inl h18)])
          clear hlt HE2 HU HE h18
          go_quiet (fail)
          go_wp2_with fail
          exact bodyPost_ret (v := .tuple #[.agg #[.int .i64 0, .int .i64 0], .bool false]) (by simp [results, Tryz.results220, go_sem, e0, e1]) rfl ⟨by rw [HD.out]; rfl, ((hM.drewN _).aw.setCell (.inr (Nat.le_succ _)) _).setCell (.inr (Nat.le_succ _)) _⟩
        · have d18 : decide ((18 : Int) < (t : Int)) = false := decide_eq_false (by omega)
          have d18n : decide (18 < t) = false := decide_eq_false h18
          have kM : ∀ W, Calls Tryz.prog 183 #[.int .u64 9223372036854775807] W fun e w' => e = .returned (.agg (wL 9223372036854775807)) ∧ Aw [] W w' := fun W => of_wide 9223372036854775807 (by decide) W
          have kC := fun W => compare_wide u 9223372036854775807 W
          rw [Nat.mod_eq_of_lt hlt, Nat.mod_eq_of_lt big_lt] at kC
          have hx1 : IntKind.i64.wrap (xw u 0 : Nat) = if u ≤ 9223372036854775807 then (u : Int) else IntKind.i64.wrap (xw u 0 : Nat) := by
            split
            · rw [xw_word u (by omega)]; exact IntWalk.i64_in _ (by omega)
            · rfl
          unfold wL at kM kC
          generalize xw 9223372036854775807 0 = b0 at kM kC
          generalize xw 9223372036854775807 1 = b1 at kM kC
          generalize xw 9223372036854775807 2 = b2 at kM kC
          generalize xw 9223372036854775807 3 = b3 at kM kC
          have h18' : ¬ 18 < t := h18
          by_cases hbig : 9223372036854775807 < u
          · have HD : Hid (decN neg v s = ((0, 0), false)) := Lib.hid (by unfold decN; rw [if_neg hz0.out, HE2, if_pos (.inr hbig)])
            have hc : cmpZ u 9223372036854775807 = 1 := by unfold cmpZ; rw [if_neg (by omega), if_pos hbig]
            rw [hc] at kC
            clear hlt HE2 HU HE h18 h18' hx1 hc hbig
            go_region_held3 (fun w' => (w'.cell? ⟨w.heap.size, 1, none⟩ = some (.int .u64 (xw u 0 : Nat)) ∧ w'.cell? ⟨w.heap.size, 2, none⟩ = some (.int .u64 (xw u 1 : Nat)) ∧ w'.cell? ⟨w.heap.size, 3, none⟩ = some (.int .u64 (xw u 2 : Nat)) ∧ w'.cell? ⟨w.heap.size, 4, none⟩ = some (.int .u64 (xw u 3 : Nat)) ∧ w'.cell? ⟨w.heap.size, 5, none⟩ = some (.int .i64 (t : Int))) ∧ NR w w' neg u t) (first | assumption | exact hM.drew.fs) (first
              | (go_at_call 183; (with_reducible refine (kM _).mono ?_); rintro e w5 ⟨rfl, hA5⟩; have S5 := (NR.call (And.right (by assumption)) hA5).fs)
              | (go_at_call 186; (with_reducible refine (kC _).mono ?_); rintro e w6 ⟨rfl, hA6⟩; have S6 := (NR.call (And.right (by assumption)) hA6).fs))
            rename_i hHeld
            obtain ⟨_, hL⟩ := hHeld
            clear d0 d1 d2 d3 d4 d5 e0 e1 q0 q1
            obtain ⟨⟨e0, e1⟩, q0, q1⟩ := hL.rsf
            go_wp2_with fail
            exact bodyPost_ret (v := .tuple #[.agg #[.int .i64 0, .int .i64 0], .bool false]) (by simp [results, Tryz.results220, go_sem, e0, e1]) rfl ⟨by rw [HD.out]; rfl, (hL.aw.setCell (.inr (Nat.le_succ _)) _).setCell (.inr (Nat.le_succ _)) _⟩
          · have HD : Hid (decN neg v s = ((if neg then -(u : Int) else (u : Int), t), true)) := Lib.hid (by unfold decN; rw [if_neg hz0.out, HE2, if_neg (by rintro (h | h); exact h18 h; exact hbig h)])
            rw [if_pos (show u ≤ 9223372036854775807 by omega)] at hx1
            obtain ⟨c, hc, hc0⟩ : ∃ c, cmpZ u 9223372036854775807 = c ∧ c ≤ 0 := ⟨_, rfl, by unfold cmpZ; (repeat' split) <;> omega⟩
            rw [hc] at kC
            have dc : decide ((0 : Int) < c) = false := decide_eq_false (by omega)
            have hneg : IntKind.i64.wrap (-(u : Int)) = -(u : Int) := IntWalk.i64_in _ (by omega)
            clear hlt HE2 HU HE h18 h18' hc hbig
            go_region_held3 (fun w' => (w'.cell? ⟨w.heap.size, 1, none⟩ = some (.int .u64 (xw u 0 : Nat)) ∧ w'.cell? ⟨w.heap.size, 2, none⟩ = some (.int .u64 (xw u 1 : Nat)) ∧ w'.cell? ⟨w.heap.size, 3, none⟩ = some (.int .u64 (xw u 2 : Nat)) ∧ w'.cell? ⟨w.heap.size, 4, none⟩ = some (.int .u64 (xw u 3 : Nat)) ∧ w'.cell? ⟨w.heap.size, 5, none⟩ = some (.int .i64 (t : Int))) ∧ NR w w' neg u t) (first | assumption | exact hM.drew.fs) (first
              | (go_at_call 183; (with_reducible refine (kM _).mono ?_); rintro e w5 ⟨rfl, hA5⟩; have S5 := (NR.call (And.right (by assumption)) hA5).fs)
              | (go_at_call 186; (with_reducible refine (kC _).mono ?_); rintro e w6 ⟨rfl, hA6⟩; have S6 := (NR.call (And.right (by assumption)) hA6).fs))
            rename_i hHeld
            obtain ⟨_, hL⟩ := hHeld
            clear d0 d1 d2 d3 d4 d5 e0 e1 q0 q1
            obtain ⟨⟨d0, d1, d2, d3, d4, d5⟩, _⟩ := hL.nm.facts
            obtain ⟨⟨e0, e1⟩, q0, q1⟩ := hL.rsf
            cases neg
            · go_wp2_with fail
              exact bodyPost_ret (v := .tuple #[.agg #[.int .i64 (u : Int), .int .i64 (t : Int)], .bool true]) (by simp [results, Tryz.results220, go_sem, e0, e1]) rfl ⟨by rw [HD.out]; rfl, (hL.aw.setCell (.inr (Nat.le_succ _)) _).setCell (.inr (Nat.le_succ _)) _⟩
            · go_wp2_with fail
              exact bodyPost_ret (v := .tuple #[.agg #[.int .i64 (-(u : Int)), .int .i64 (t : Int)], .bool true]) (by simp [results, Tryz.results220, go_sem, e0, e1]) rfl ⟨by rw [HD.out]; rfl, (hL.aw.setCell (.inr (Nat.le_succ _)) _).setCell (.inr (Nat.le_succ _)) _⟩
      · obtain ⟨t1, ht1⟩ : ∃ t1, t = t1 + 1 := ⟨t - 1, by omega⟩
        have dt : decide ((0 : Int) < (t : Int)) = true := decide_eq_true (by omega)
        have dtn : decide (0 < t) = true := decide_eq_true (by omega)
        have kT := fun W => tenth_lt u W HU.out
        have wt : IntKind.i64.wrap ((t : Int) - 1) = (t1 : Int) := by rw [show (t : Int) - 1 = t1 by omega]; exact IntWalk.i64_in _ (by omega)
        unfold wL at kT
        by_cases hd : u % 10 = 0
        · rw [hd] at kT
          have HN : Hid (stripN (v % wMod) s = stripN (u / 10) t1) := Lib.hid (by rw [HS.out, ht1, strip_go hd])
          have HV : Hid (u / 10 < wMod) := Lib.hid (Nat.lt_of_le_of_lt (Nat.div_le_self _ _) HU.out)
          clear HS HU hd
          generalize u / 10 = y at kT HN HV
          have ht2 : t1 < t := by omega
          clear ht1 ht0
          go_wp2_with (go_at_call 245; (with_reducible refine (kT _).mono ?_); rintro e w2 ⟨rfl, hA2⟩; have hM2 := hM.call hA2; have hM3 := hM2.alloc (.cells #[.int .u64 (xw y 0 : Nat), .int .u64 (xw y 1 : Nat), .int .u64 (xw y 2 : Nat), .int .u64 (xw y 3 : Nat)] 198); obtain ⟨⟨k0, k1, k2, k3, k4, k5⟩, l1, l2, l3, l4, l5⟩ := hM3.nm.facts)
          have hM4 := hM3.put y t1
          exact ⟨⟨y, t1, by omega, hM4, HV, HN⟩, by rw [hM4.tOf, hm0]; exact ht2⟩
        · have HE : Hid (stripN (v % wMod) s = (u, t)) := Lib.hid (by rw [HS.out, ht1, strip_stop hd])
          have dr : decide ((0 : Int) < ((u % 10 : Nat) : Int)) = true := decide_eq_true (by omega)
          have drn : decide (0 < u % 10) = true := decide_eq_true (by omega)
          clear HS hd hm0 ht0 ht1 wt
          generalize u % 10 = y at kT dr drn
          go_wp2_with (go_at_call 245; (with_reducible refine (kT _).mono ?_); rintro e w2 ⟨rfl, hA2⟩; have hM2 := hM.call hA2; have hM3 := hM2.alloc (.cells #[.int .u64 (xw (u / 10) 0 : Nat), .int .u64 (xw (u / 10) 1 : Nat), .int .u64 (xw (u / 10) 2 : Nat), .int .u64 (xw (u / 10) 3 : Nat)] 198))
          clear dt dtn dr drn d0 d1 d2 d3 d4 d5 g1 g2 g3 g4 g5 hM hM2 kT
          have hM := hM3
          clear hM3
          generalize w2.alloc (.cells #[.int .u64 (xw (u / 10) 0 : Nat), .int .u64 (xw (u / 10) 1 : Nat), .int .u64 (xw (u / 10) 2 : Nat), .int .u64 (xw (u / 10) 3 : Nat)] 198) = wq at *
          have hlt := HU.out
          have HE2 := HE.out
          obtain ⟨⟨d0, d1, d2, d3, d4, d5⟩, _⟩ := hM.nm.facts
          obtain ⟨⟨e0, e1⟩, q0, q1⟩ := hM.rsf
          by_cases h18 : 18 < t
          · have d18 : decide ((18 : Int) < (t : Int)) = true := decide_eq_true (by omega)
            have d18n : decide (18 < t) = true := decide_eq_true h18
            have HD : Hid (decN neg v s = ((0, 0), false)) := Lib.hid (by unfold decN; rw [if_neg hz0.out, HE2, if_pos (.inl h18)])
            clear hlt HE2 HU HE h18
            go_quiet (fail)
            go_wp2_with fail
            exact bodyPost_ret (v := .tuple #[.agg #[.int .i64 0, .int .i64 0], .bool false]) (by simp [results, Tryz.results220, go_sem, e0, e1]) rfl ⟨by rw [HD.out]; rfl, ((hM.drewN _).aw.setCell (.inr (Nat.le_succ _)) _).setCell (.inr (Nat.le_succ _)) _⟩
          · have d18 : decide ((18 : Int) < (t : Int)) = false := decide_eq_false (by omega)
            have d18n : decide (18 < t) = false := decide_eq_false h18
            have kM : ∀ W, Calls Tryz.prog 183 #[.int .u64 9223372036854775807] W fun e w' => e = .returned (.agg (wL 9223372036854775807)) ∧ Aw [] W w' := fun W => of_wide 9223372036854775807 (by decide) W
            have kC := fun W => compare_wide u 9223372036854775807 W
            rw [Nat.mod_eq_of_lt hlt, Nat.mod_eq_of_lt big_lt] at kC
            have hx1 : IntKind.i64.wrap (xw u 0 : Nat) = if u ≤ 9223372036854775807 then (u : Int) else IntKind.i64.wrap (xw u 0 : Nat) := by
              split
              · rw [xw_word u (by omega)]; exact IntWalk.i64_in _ (by omega)
              · rfl
            unfold wL at kM kC
            generalize xw 9223372036854775807 0 = b0 at kM kC
            generalize xw 9223372036854775807 1 = b1 at kM kC
            generalize xw 9223372036854775807 2 = b2 at kM kC
            generalize xw 9223372036854775807 3 = b3 at kM kC
            have h18' : ¬ 18 < t := h18
            by_cases hbig : 9223372036854775807 < u
            · have HD : Hid (decN neg v s = ((0, 0), false)) := Lib.hid (by unfold decN; rw [if_neg hz0.out, HE2, if_pos (.inr hbig)])
              have hc : cmpZ u 9223372036854775807 = 1 := by unfold cmpZ; rw [if_neg (by omega), if_pos hbig]
              rw [hc] at kC
              clear hlt HE2 HU HE h18 h18' hx1 hc hbig
              go_region_held3 (fun w' => (w'.cell? ⟨w.heap.size, 1, none⟩ = some (.int .u64 (xw u 0 : Nat)) ∧ w'.cell? ⟨w.heap.size, 2, none⟩ = some (.int .u64 (xw u 1 : Nat)) ∧ w'.cell? ⟨w.heap.size, 3, none⟩ = some (.int .u64 (xw u 2 : Nat)) ∧ w'.cell? ⟨w.heap.size, 4, none⟩ = some (.int .u64 (xw u 3 : Nat)) ∧ w'.cell? ⟨w.heap.size, 5, none⟩ = some (.int .i64 (t : Int))) ∧ NR w w' neg u t) (first | assumption | exact hM.drew.fs) (first
                | (go_at_call 183; (with_reducible refine (kM _).mono ?_); rintro e w5 ⟨rfl, hA5⟩; have S5 := (NR.call (And.right (by assumption)) hA5).fs)
                | (go_at_call 186; (with_reducible refine (kC _).mono ?_); rintro e w6 ⟨rfl, hA6⟩; have S6 := (NR.call (And.right (by assumption)) hA6).fs))
              rename_i hHeld
              obtain ⟨_, hL⟩ := hHeld
              clear d0 d1 d2 d3 d4 d5 e0 e1 q0 q1
              obtain ⟨⟨e0, e1⟩, q0, q1⟩ := hL.rsf
              go_wp2_with fail
              exact bodyPost_ret (v := .tuple #[.agg #[.int .i64 0, .int .i64 0], .bool false]) (by simp [results, Tryz.results220, go_sem, e0, e1]) rfl ⟨by rw [HD.out]; rfl, (hL.aw.setCell (.inr (Nat.le_succ _)) _).setCell (.inr (Nat.le_succ _)) _⟩
            · have HD : Hid (decN neg v s = ((if neg then -(u : Int) else (u : Int), t), true)) := Lib.hid (by unfold decN; rw [if_neg hz0.out, HE2, if_neg (by rintro (h | h); exact h18 h; exact hbig h)])
              rw [if_pos (show u ≤ 9223372036854775807 by omega)] at hx1
              obtain ⟨c, hc, hc0⟩ : ∃ c, cmpZ u 9223372036854775807 = c ∧ c ≤ 0 := ⟨_, rfl, by unfold cmpZ; (repeat' split) <;> omega⟩
              rw [hc] at kC
              have dc : decide ((0 : Int) < c) = false := decide_eq_false (by omega)
              have hneg : IntKind.i64.wrap (-(u : Int)) = -(u : Int) := IntWalk.i64_in _ (by omega)
              clear hlt HE2 HU HE h18 h18' hc hbig
              go_region_held3 (fun w' => (w'.cell? ⟨w.heap.size, 1, none⟩ = some (.int .u64 (xw u 0 : Nat)) ∧ w'.cell? ⟨w.heap.size, 2, none⟩ = some (.int .u64 (xw u 1 : Nat)) ∧ w'.cell? ⟨w.heap.size, 3, none⟩ = some (.int .u64 (xw u 2 : Nat)) ∧ w'.cell? ⟨w.heap.size, 4, none⟩ = some (.int .u64 (xw u 3 : Nat)) ∧ w'.cell? ⟨w.heap.size, 5, none⟩ = some (.int .i64 (t : Int))) ∧ NR w w' neg u t) (first | assumption | exact hM.drew.fs) (first
                | (go_at_call 183; (with_reducible refine (kM _).mono ?_); rintro e w5 ⟨rfl, hA5⟩; have S5 := (NR.call (And.right (by assumption)) hA5).fs)
                | (go_at_call 186; (with_reducible refine (kC _).mono ?_); rintro e w6 ⟨rfl, hA6⟩; have S6 := (NR.call (And.right (by assumption)) hA6).fs))
              rename_i hHeld
              obtain ⟨_, hL⟩ := hHeld
              clear d0 d1 d2 d3 d4 d5 e0 e1 q0 q1
              obtain ⟨⟨d0, d1, d2, d3, d4, d5⟩, _⟩ := hL.nm.facts
              obtain ⟨⟨e0, e1⟩, q0, q1⟩ := hL.rsf
              cases neg
              · go_wp2_with fail
                exact bodyPost_ret (v := .tuple #[.agg #[.int .i64 (u : Int), .int .i64 (t : Int)], .bool true]) (by simp [results, Tryz.results220, go_sem, e0, e1]) rfl ⟨by rw [HD.out]; rfl, (hL.aw.setCell (.inr (Nat.le_succ _)) _).setCell (.inr (Nat.le_succ _)) _⟩
              · go_wp2_with fail
                exact bodyPost_ret (v := .tuple #[.agg #[.int .i64 (-(u : Int)), .int .i64 (t : Int)], .bool true]) (by simp [results, Tryz.results220, go_sem, e0, e1]) rfl ⟨by rw [HD.out]; rfl, (hL.aw.setCell (.inr (Nat.le_succ _)) _).setCell (.inr (Nat.le_succ _)) _⟩
end
section
theorem count_bd (M S : Int) : (countD M S).2 ≤ 18 ∧ ((countD M S).1 = 0 ∨ (countD M S).1 = M) ∧ goodD (countD M S).1 (countD M S).2 = true ∧ (goodD M S = true → ((countD M S).2 : Int) = S) := by
  unfold countD
  cases h : goodD M S
  · simp [goodD]
  · simp only [if_true]
    have h2 := h
    unfold goodD at h2
    simp only [Bool.and_eq_true, decide_eq_true_eq] at h2
    have e : ((S.toNat : Nat) : Int) = S := by omega
    exact ⟨by omega, .inr trivial, by rw [e]; exact h, fun _ => e⟩
set_option maxHeartbeats 1600000 in
theorem counted_any (M S : Int) (h0 : -9223372036854775808 ≤ M) (h1 : M ≤ 9223372036854775807) (w : World) :
    Calls Tryz.prog 138 #[.agg #[.int .i64 M, .int .i64 S]] w fun e w' => e = .returned (.agg #[.int .i64 (countD M S).1, .int .i64 ((countD M S).2 : Nat)]) ∧ Aw [] w w' := by
  have kG := fun W => dgood_any M S h0 h1 W
  have hc := count_bd M S
  have hB0 := Blk.new w 71 #[.int .i64 M, .int .i64 S]
  have hB0' := Blk.alloc hB0 (.cells #[.int .i64 0, .int .i64 0] 71)
  have hB1 := Blk.new (w.alloc (.cells #[.int .i64 M, .int .i64 S] 71)) 71 #[.int .i64 0, .int .i64 0]
  have hz : (w.alloc (.cells #[.int .i64 M, .int .i64 S] 71)).heap.size = w.heap.size + 1 := by simp
  rw [hz] at hB1
  have hA0 := ((Aw.refl [] w).alloc (.cells #[.int .i64 M, .int .i64 S] 71)).alloc (.cells #[.int .i64 0, .int .i64 0] 71)
  cases hg : goodD M S
  · have e : countD M S = (0, 0) := by unfold countD; rw [hg]; rfl
    rw [e]
    rw [hg] at kG
    clear hc hg e
    go_enter Tryz.func138, Tryz.ntmps138
    go_wp2_with (go_at_call 182; (with_reducible refine (kG _).mono ?_); rintro e w1 ⟨rfl, hA1⟩; have c1 := Blk.aw hB1 hA1 (by simp); have d0 := (Blk.cell c1 0).trans rfl; have d1 := (Blk.cell c1 1).trans rfl; have f0 := Blk.frozen c1 0; have f1 := Blk.frozen c1 1)
    exact bodyPost_ret (v := .agg #[.int .i64 0, .int .i64 0]) (by simp [results, Tryz.results138, go_sem, d0, d1]) rfl ⟨rfl, ((hA0.trans hA1).setCell (.inr (Nat.le_succ _)) _).setCell (.inr (Nat.le_succ _)) _⟩
  · have e1 : (countD M S).1 = M := by unfold countD; rw [hg]; rfl
    rw [e1, hc.2.2.2 hg]
    rw [hg] at kG
    clear hc hg e1
    go_enter Tryz.func138, Tryz.ntmps138
    go_wp2_with (go_at_call 182; (with_reducible refine (kG _).mono ?_); rintro e w1 ⟨rfl, hA1⟩; have b1 := Blk.aw hB0' hA1 (by simp); have g0 := (Blk.cell b1 0).trans rfl; have g1 := (Blk.cell b1 1).trans rfl; have c1 := Blk.aw hB1 hA1 (by simp); have d0 := (Blk.cell c1 0).trans rfl; have d1 := (Blk.cell c1 1).trans rfl; have f0 := Blk.frozen c1 0; have f1 := Blk.frozen c1 1)
    exact bodyPost_ret (v := .agg #[.int .i64 M, .int .i64 S]) (by simp [results, Tryz.results138, go_sem, d0, d1]) rfl ⟨rfl, ((hA0.trans hA1).setCell (.inr (Nat.le_succ _)) _).setCell (.inr (Nat.le_succ _)) _⟩
/-- A decimal in a block of the call's own, all else as it was. -/
structure N2 (w0 w : World) (M S : Int) : Prop where
  d : Blk w w0.heap.size 71 #[.int .i64 M, .int .i64 S]
  aw : Aw [] w0 w
section
variable {w0 w w' : World} {M S : Int}
theorem N2.call (h : N2 w0 w M S) (k : Aw [] w w') : N2 w0 w' M S := ⟨Blk.aw h.d k (by simp), h.aw.trans k⟩
theorem N2.drew (h : N2 w0 w M S) : N2 w0 w.drew M S := ⟨Blk.drew h.d, h.aw.drew⟩
theorem N2.far (h : N2 w0 w M S) (p : Addr) (hp : w0.heap.size < p.block) (u : Value) : N2 w0 (w.setCell p u) M S := ⟨Blk.far h.d (by omega) u, h.aw.setCell (.inr (by omega)) u⟩
theorem N2.fs (h : N2 w0 w M S) : (w.cell? ⟨w0.heap.size, 0, none⟩ = some (.int .i64 M) ∧ w.cell? ⟨w0.heap.size, 1, none⟩ = some (.int .i64 S)) ∧ N2 w0 w M S :=
  ⟨⟨(Blk.cell h.d 0).trans rfl, (Blk.cell h.d 1).trans rfl⟩, h⟩
end
set_option maxHeartbeats 3200000 in
theorem numberOf_any (M : Int) (S s : Nat) (h0 : -9223372036854775808 ≤ M) (h1 : M ≤ 9223372036854775807) (hS : S ≤ s) (hs : s ≤ 18) (w : World) :
    Calls Tryz.prog 139 #[.agg #[.int .i64 M, .int .i64 (S : Int)], .int .i64 (s : Int)] w fun e w' => e = .returned (.agg #[.bool (decide (M < 0)), .int .u64 (xw (numW (M, S) s) 0 : Nat), .int .u64 (xw (numW (M, S) s) 1 : Nat), .int .u64 (xw (numW (M, S) s) 2 : Nat), .int .u64 (xw (numW (M, S) s) 3 : Nat), .int .i64 (s : Int)]) ∧ Aw [] w w' := by
  have hA : absN M < 18446744073709551616 := by unfold absN; omega
  have kA := fun W => abs_any M h0 h1 W
  have kO := fun W => of_wide (absN M) hA W
  have kP := fun W => power_wide (absN M) 10 (s - S) W (by decide) (by omega)
  have e10 : ((10 : Nat) : Int) = 10 := rfl
  simp only [e10] at kP
  clear e10
  have e1 : absN M * 10 ^ (s - S) = numW (M, S) s := rfl
  rw [e1] at kP
  have e2 : IntKind.i64.wrap ((s - S : Nat) : Int) = ((s - S : Nat) : Int) := IntWalk.i64_in _ (by omega)
  have e3 : (s : Int) - (S : Int) = ((s - S : Nat) : Int) := by omega
  unfold wL at kO kP
  clear hA e1
  generalize numW (M, S) s = v at *
  generalize absN M = m at *
  generalize s - S = k at *
  have hN : N2 w ((w.alloc (.cells #[.int .i64 M, .int .i64 (S : Int)] 71)).alloc (.cells #[.bool false, .int .u64 0, .int .u64 0, .int .u64 0, .int .u64 0, .int .i64 0] 200)) M (S : Int) := ⟨Blk.alloc (Blk.new w _ _) _, ((Aw.refl _ _).alloc _).alloc _⟩
  have hR := Blk.new (w.alloc (.cells #[.int .i64 M, .int .i64 (S : Int)] 71)) 200 #[.bool false, .int .u64 0, .int .u64 0, .int .u64 0, .int .u64 0, .int .i64 0]
  have hz : (w.alloc (.cells #[.int .i64 M, .int .i64 (S : Int)] 71)).heap.size = w.heap.size + 1 := by simp
  rw [hz] at hR
  clear hz
  go_enter Tryz.func139, Tryz.ntmps139
  go_wp2_with fail
  generalize (w.alloc (.cells #[.int .i64 M, .int .i64 (S : Int)] 71)).alloc (.cells #[.bool false, .int .u64 0, .int .u64 0, .int .u64 0, .int .u64 0, .int .i64 0] 200) = W0 at *
  go_region_held3 (fun w' => (w'.cell? ⟨w.heap.size, 0, none⟩ = some (.int .i64 M) ∧ w'.cell? ⟨w.heap.size, 1, none⟩ = some (.int .i64 (S : Int))) ∧ N2 w w' M (S : Int)) (first | (with_reducible assumption) | (with_reducible exact hN.drew.fs) | (refine N2.fs ?_; repeat (first | (with_reducible assumption) | (with_reducible refine N2.far ?_ _ (by simp) _)))) (first
    | (go_at_call 184; (with_reducible refine (kA _).mono ?_); rintro e w1 ⟨rfl, hw1⟩; rw [hw1]; clear hw1 w1)
    | (go_at_call 183; (with_reducible refine (kO _).mono ?_); rintro e w2 ⟨rfl, hA2⟩; have hN2 := (hN.drew.call hA2); have S2 := hN2.fs)
    | (go_at_call 185; (with_reducible refine (kP _).mono ?_); rintro e w3 ⟨rfl, hA3⟩; have hN3 := (hN2.call hA3); have S3 := hN3.fs; have hR3 := Blk.aw (Blk.aw hR.drew hA2 (by simp)) hA3 (by simp); have c0 := (Blk.cell hR3 0).trans rfl; have c1 := (Blk.cell hR3 1).trans rfl; have c2 := (Blk.cell hR3 2).trans rfl; have c3 := (Blk.cell hR3 3).trans rfl; have c4 := (Blk.cell hR3 4).trans rfl; have c5 := (Blk.cell hR3 5).trans rfl; have f0 := Blk.frozen hR3 0; have f1 := Blk.frozen hR3 1; have f2 := Blk.frozen hR3 2; have f3 := Blk.frozen hR3 3; have f4 := Blk.frozen hR3 4; have f5 := Blk.frozen hR3 5))
  rename_i hHeld
  obtain ⟨_, hL⟩ := hHeld
  go_wp2_with fail
  refine bodyPost_ret (v := .agg #[.bool (decide (M < 0)), .int .u64 (xw v 0 : Nat), .int .u64 (xw v 1 : Nat), .int .u64 (xw v 2 : Nat), .int .u64 (xw v 3 : Nat), .int .i64 (s : Int)]) (by simp [results, Tryz.results139, go_sem, c0, c1, c2, c3, c4, c5]) rfl ⟨rfl, hL.aw⟩
set_option maxRecDepth 100000 in
set_option maxHeartbeats 3200000 in
theorem ncompare_any (n1 n2 : Bool) (v u s1 s2 : Nat) (w : World) :
    Calls Tryz.prog 140 #[.agg #[.bool n1, .int .u64 (xw v 0 : Nat), .int .u64 (xw v 1 : Nat), .int .u64 (xw v 2 : Nat), .int .u64 (xw v 3 : Nat), .int .i64 (s1 : Int)], .agg #[.bool n2, .int .u64 (xw u 0 : Nat), .int .u64 (xw u 1 : Nat), .int .u64 (xw u 2 : Nat), .int .u64 (xw u 3 : Nat), .int .i64 (s2 : Int)]] w fun e w' => e = .returned (.int .i64 (cmpNum n1 v n2 u)) ∧ Aw [] w w' := by
  have kC := fun W => compare_wide v u W
  have kD := fun W => compare_wide u v W
  unfold wL at kC kD
  have hA0 := ((Aw.refl [] w).alloc (.cells #[.bool n1, .int .u64 (xw v 0 : Nat), .int .u64 (xw v 1 : Nat), .int .u64 (xw v 2 : Nat), .int .u64 (xw v 3 : Nat), .int .i64 (s1 : Int)] 200)).alloc (.cells #[.bool n2, .int .u64 (xw u 0 : Nat), .int .u64 (xw u 1 : Nat), .int .u64 (xw u 2 : Nat), .int .u64 (xw u 3 : Nat), .int .i64 (s2 : Int)] 200)
  have HR : Hid (cmpNum n1 v n2 u = if n1 && n2 then cmpZ (u % wMod) (v % wMod) else if n1 then -1 else if n2 then 1 else cmpZ (v % wMod) (u % wMod)) := Lib.hid rfl
  generalize cmpNum n1 v n2 u = R at *
  generalize cmpZ (v % wMod) (u % wMod) = c1 at *
  generalize cmpZ (u % wMod) (v % wMod) = c2 at *
  cases n1 <;> cases n2
  all_goals
    go_enter Tryz.func140, Tryz.ntmps140
    go_wp2_with (first
      | (go_at_call 186; (with_reducible refine (kC _).mono ?_); rintro e w1 ⟨rfl, hA1⟩)
      | (go_at_call 186; (with_reducible refine (kD _).mono ?_); rintro e w1 ⟨rfl, hA1⟩))
    go_ret
    have hR := HR.out
    subst hR
    first
      | exact ⟨rfl, hA0.trans hA1⟩
      | exact ⟨rfl, hA0⟩
end
section
/-- Two decimals in blocks of the call's own. -/
structure N4 (w0 w : World) (M S N T : Int) : Prop where
  d : Blk w w0.heap.size 71 #[.int .i64 M, .int .i64 S]
  e : Blk w (w0.heap.size + 1) 71 #[.int .i64 N, .int .i64 T]
  aw : Aw [] w0 w
section
variable {w0 w w' : World} {M S N T : Int}
theorem N4.call (h : N4 w0 w M S N T) (k : Aw [] w w') : N4 w0 w' M S N T := ⟨Blk.aw h.d k (by simp), Blk.aw h.e k (by simp), h.aw.trans k⟩
theorem N4.drew (h : N4 w0 w M S N T) : N4 w0 w.drew M S N T := ⟨Blk.drew h.d, Blk.drew h.e, h.aw.drew⟩
theorem N4.drewN (h : N4 w0 w M S N T) (n : Nat) : N4 w0 (w.drewN n) M S N T := ⟨Blk.drewN h.d n, Blk.drewN h.e n, h.aw.drewN n⟩
theorem N4.alloc (h : N4 w0 w M S N T) (o : Obj) : N4 w0 (w.alloc o) M S N T := ⟨Blk.alloc h.d o, Blk.alloc h.e o, h.aw.alloc o⟩
theorem N4.far (h : N4 w0 w M S N T) (p : Addr) (hp : w0.heap.size + 1 < p.block) (u : Value) : N4 w0 (w.setCell p u) M S N T := ⟨Blk.far h.d (by omega) u, Blk.far h.e (by omega) u, h.aw.setCell (.inr (by omega)) u⟩
theorem N4.put1 (h : N4 w0 w M S N T) (M' S' : Int) : N4 w0 ((w.setCell ⟨w0.heap.size, 0, none⟩ (.int .i64 M')).setCell ⟨w0.heap.size, 1, none⟩ (.int .i64 S')) M' S' N T :=
  ⟨(Blk.set_ h.d 0 (.int .i64 M')).set_ 1 (.int .i64 S'), (Blk.far h.e (by simp) _).far (by simp) _, (h.aw.setCell (.inr (Nat.le_refl _)) _).setCell (.inr (Nat.le_refl _)) _⟩
theorem N4.put2 (h : N4 w0 w M S N T) (M' S' : Int) : N4 w0 ((w.setCell ⟨w0.heap.size + 1, 0, none⟩ (.int .i64 M')).setCell ⟨w0.heap.size + 1, 1, none⟩ (.int .i64 S')) M S M' S' :=
  ⟨(Blk.far h.d (by simp) _).far (by simp) _, (Blk.set_ h.e 0 (.int .i64 M')).set_ 1 (.int .i64 S'), (h.aw.setCell (.inr (Nat.le_succ _)) _).setCell (.inr (Nat.le_succ _)) _⟩
theorem N4.fs (h : N4 w0 w M S N T) : (w.cell? ⟨w0.heap.size, 0, none⟩ = some (.int .i64 M) ∧ w.cell? ⟨w0.heap.size, 1, none⟩ = some (.int .i64 S) ∧ w.cell? ⟨w0.heap.size + 1, 0, none⟩ = some (.int .i64 N) ∧ w.cell? ⟨w0.heap.size + 1, 1, none⟩ = some (.int .i64 T)) ∧ N4 w0 w M S N T :=
  ⟨⟨(Blk.cell h.d 0).trans rfl, (Blk.cell h.d 1).trans rfl, (Blk.cell h.e 0).trans rfl, (Blk.cell h.e 1).trans rfl⟩, h⟩
theorem N4.fz (h : N4 w0 w M S N T) : w.frozen? ⟨w0.heap.size, 0, none⟩ = false ∧ w.frozen? ⟨w0.heap.size, 1, none⟩ = false ∧ w.frozen? ⟨w0.heap.size + 1, 0, none⟩ = false ∧ w.frozen? ⟨w0.heap.size + 1, 1, none⟩ = false :=
  ⟨Blk.frozen h.d 0, Blk.frozen h.d 1, Blk.frozen h.e 0, Blk.frozen h.e 1⟩
theorem N4.start (w : World) (M S N T : Int) : N4 w ((w.alloc (.cells #[.int .i64 M, .int .i64 S] 71)).alloc (.cells #[.int .i64 N, .int .i64 T] 71)) M S N T :=
  ⟨Blk.alloc (Blk.new w _ _) _, by
    have := Blk.new (w.alloc (.cells #[.int .i64 M, .int .i64 S] 71)) 71 #[.int .i64 N, .int .i64 T]
    simpa using this, ((Aw.refl _ _).alloc _).alloc _⟩
end
set_option maxRecDepth 100000 in
set_option maxHeartbeats 6400000 in
theorem scompare_any (M S N T : Int) (h0 : -9223372036854775808 ≤ M) (h1 : M ≤ 9223372036854775807) (h2 : -9223372036854775808 ≤ N) (h3 : N ≤ 9223372036854775807) (w : World) :
    Calls Tryz.prog 91 #[.agg #[.int .i64 M, .int .i64 S], .agg #[.int .i64 N, .int .i64 T]] w fun e w' => e = .returned (.int .i64 (cmpD M S N T)) ∧ Aw [] w w' := by
  have k1 := fun W => counted_any M S h0 h1 W
  have k2 := fun W => counted_any N T h2 h3 W
  obtain ⟨b1, b2, _, _⟩ := count_bd M S
  obtain ⟨b3, b4, _, _⟩ := count_bd N T
  have HR : Hid (cmpD M S N T = cmpNum (decide ((countD M S).1 < 0)) (numW (countD M S) (max (countD M S).2 (countD N T).2)) (decide ((countD N T).1 < 0)) (numW (countD N T) (max (countD M S).2 (countD N T).2))) := Lib.hid rfl
  generalize cmpD M S N T = R at *
  generalize countD M S = a at *
  generalize countD N T = b at *
  obtain ⟨A, p⟩ := a
  obtain ⟨B, q⟩ := b
  simp only at b1 b2 b3 b4 k1 k2 HR
  obtain ⟨m, hm⟩ : ∃ m, max p q = m := ⟨_, rfl⟩
  have hpm : p ≤ m := by omega
  have hqm : q ≤ m := by omega
  have hm18 : m ≤ 18 := by omega
  have emax : max (p : Int) (q : Int) = (m : Int) := by omega
  have k3 := fun W => numberOf_any A p m (by rcases b2 with h | h <;> omega) (by rcases b2 with h | h <;> omega) hpm hm18 W
  have k4 := fun W => numberOf_any B q m (by rcases b4 with h | h <;> omega) (by rcases b4 with h | h <;> omega) hqm hm18 W
  rw [hm] at HR
  have k5 := fun W => ncompare_any (decide (A < 0)) (decide (B < 0)) (numW (A, p) m) (numW (B, q) m) m m W
  rw [← HR.out] at k5
  have hN := N4.start w M S N T
  clear HR b2 b4 hm hpm hqm
  generalize numW (A, p) m = v1 at *
  generalize numW (B, q) m = v2 at *
  go_enter Tryz.func91, Tryz.ntmps91
  go_wp2_with fail
  generalize (w.alloc (.cells #[.int .i64 M, .int .i64 S] 71)).alloc (.cells #[.int .i64 N, .int .i64 T] 71) = W0 at *
  have hN0 := hN.drew
  obtain ⟨⟨c0, c1, c2, c3⟩, _⟩ := hN0.fs
  go_region_law (first
    | (go_simp; go_at_call 138; (with_reducible refine (k1 _).mono ?_); rintro e w1 ⟨rfl, hA1⟩; first | (have hN1 := hN0.call hA1; obtain ⟨⟨d0, d1, d2, d3⟩, _⟩ := hN1.fs) | (have hN1 := hN2.call hA1; obtain ⟨⟨d0, d1, d2, d3⟩, _⟩ := hN1.fs; obtain ⟨f0, f1, f2, f3⟩ := hN1.fz))
    | (go_simp; go_at_call 138; (with_reducible refine (k2 _).mono ?_); rintro e w2 ⟨rfl, hA2⟩; first | (have hN2 := hN1.call hA2; obtain ⟨⟨d0, d1, d2, d3⟩, _⟩ := hN2.fs; obtain ⟨f0, f1, f2, f3⟩ := hN2.fz) | (have hN2 := hN0.call hA2; obtain ⟨⟨d0, d1, d2, d3⟩, _⟩ := hN2.fs)))
  all_goals
    first
      | (have hP := (hN2.put1 A (p : Int)).put2 B (q : Int); generalize World.setCell (World.setCell (World.setCell (World.setCell w2 _ _) _ _) _ _) _ _ = W9 at hP ⊢; have hQ : N4 w W9 A (p : Int) B (q : Int) := hP)
      | (have hP := (hN2.put2 B (q : Int)).put1 A (p : Int); generalize World.setCell (World.setCell (World.setCell (World.setCell w2 _ _) _ _) _ _) _ _ = W9 at hP ⊢; have hQ : N4 w W9 A (p : Int) B (q : Int) := hP)
      | (have hP := (hN1.put1 A (p : Int)).put2 B (q : Int); generalize World.setCell (World.setCell (World.setCell (World.setCell w1 _ _) _ _) _ _) _ _ = W9 at hP ⊢; have hQ : N4 w W9 A (p : Int) B (q : Int) := hP)
      | (have hP := (hN1.put2 B (q : Int)).put1 A (p : Int); generalize World.setCell (World.setCell (World.setCell (World.setCell w1 _ _) _ _) _ _) _ _ = W9 at hP ⊢; have hQ : N4 w W9 A (p : Int) B (q : Int) := hP)
    clear hP
    obtain ⟨⟨g0, g1, g2, g3⟩, _⟩ := hQ.fs
    go_wp2_with fail
    clear g0 g1 g2 g3
    have hQ' := hQ.drew
    go_region_held3 (fun w' => (w'.cell? ⟨w.heap.size, 0, none⟩ = some (.int .i64 A) ∧ w'.cell? ⟨w.heap.size, 1, none⟩ = some (.int .i64 (p : Int)) ∧ w'.cell? ⟨w.heap.size + 1, 0, none⟩ = some (.int .i64 B) ∧ w'.cell? ⟨w.heap.size + 1, 1, none⟩ = some (.int .i64 (q : Int))) ∧ N4 w w' A (p : Int) B (q : Int)) (first | (with_reducible assumption) | (with_reducible exact hQ'.fs)) (first
      | (go_at_call 139; (with_reducible refine (k3 _).mono ?_); rintro e w3 ⟨rfl, hA3⟩; have S3 := (N4.call (And.right (by with_reducible assumption)) hA3).fs)
      | (go_at_call 139; (with_reducible refine (k4 _).mono ?_); rintro e w4 ⟨rfl, hA4⟩; have S4 := (N4.call (And.right (by with_reducible assumption)) hA4).fs)
      | (go_at_call 140; (with_reducible refine (k5 _).mono ?_); rintro e w5 ⟨rfl, hA5⟩; have S5 := (N4.call (And.right (by with_reducible assumption)) hA5).fs))
    all_goals
      rename_i hHeld
      obtain ⟨_, hL⟩ := hHeld
      go_wp2_with fail
      go_ret
      exact ⟨rfl, hL.aw⟩
end
section
/-- A decimal times a thousand; false: no whole number. -/
def scaledD (M : Int) (S : Nat) : Int × Bool := if goodD M S && decide (S ≤ 3) then ((decN (decide (M < 0)) (numW (M, S) 3) 0).1.1, (decN (decide (M < 0)) (numW (M, S) 3) 0).2) else (0, false)
theorem secD_scaled (M : Int) (S : Nat) (h0 : -9223372036854775808 ≤ M) (h1 : M ≤ 9223372036854775807) :
    secD M S = if (scaledD M S).2 = true ∧ -1125899906842624 ≤ (scaledD M S).1 ∧ (scaledD M S).1 ≤ 1125899906842624 then some (scaledD M S).1 else none := by
  unfold secD scaledD
  cases hg : goodD M S && decide (S ≤ 3)
  · simp
  · have hS : S ≤ 3 := by simp at hg; exact hg.2
    simp only [if_true]
    obtain ⟨P, hP, hP1, hP2⟩ : ∃ P : Nat, 10 ^ (3 - S) = P ∧ 1 ≤ P ∧ P ≤ 1000 := by
      obtain rfl | rfl | rfl | rfl : S = 0 ∨ S = 1 ∨ S = 2 ∨ S = 3 := by omega
      all_goals exact ⟨_, rfl, by decide, by decide⟩
    have hPi : (10 : Int) ^ (3 - S) = (P : Int) := by rw [← hP]; simp
    have hnw : numW (M, S) 3 = M.natAbs * P := by unfold numW absN; rw [hP]
    rw [hPi, hnw]
    have hb : M.natAbs * P ≤ 9223372036854775808 * 1000 := Nat.mul_le_mul (by omega) hP2
    have hw : (9223372036854775808 * 1000 : Nat) < wMod := by unfold wMod; decide
    obtain ⟨v, hv⟩ : ∃ v, v = M.natAbs * P := ⟨_, rfl⟩
    have hMv : M * (P : Int) = if M < 0 then -(v : Int) else (v : Int) := by
      rw [hv]
      split
      · obtain ⟨m, rfl⟩ : ∃ m : Nat, M = -(m : Int) := ⟨M.natAbs, by omega⟩
        simp [Int.neg_mul]
      · obtain ⟨m, rfl⟩ : ∃ m : Nat, M = (m : Int) := ⟨M.natAbs, by omega⟩
        simp
    rw [← hv] at hb ⊢
    have hmod : v % wMod = v := Nat.mod_eq_of_lt (Nat.lt_of_le_of_lt hb hw)
    unfold decN
    rw [hmod, hMv]
    by_cases hz : v = 0
    · rw [if_pos hz]
      subst hz
      split <;> simp
    · rw [if_neg hz]
      have es : stripN v 0 = (v, 0) := rfl
      rw [es]
      simp only [Nat.not_lt_zero, false_or]
      by_cases hbig : 9223372036854775807 < v
      · rw [if_pos hbig]
        have : ¬ ((if M < 0 then -(v : Int) else (v : Int)) ≤ 1125899906842624 ∧ -1125899906842624 ≤ (if M < 0 then -(v : Int) else (v : Int))) := by
          split <;> omega
        rw [if_neg this]
        simp
      · rw [if_neg hbig]
        simp only [decide_eq_true_eq, true_and]
        by_cases hn : M < 0
        · simp only [hn, if_true]
          by_cases hr : -(v : Int) ≤ 1125899906842624 ∧ -1125899906842624 ≤ -(v : Int)
          · rw [if_pos hr, if_pos ⟨hr.2, hr.1⟩]
          · rw [if_neg hr, if_neg (fun h => hr ⟨h.2, h.1⟩)]
        · simp only [hn, if_false]
          by_cases hr : (v : Int) ≤ 1125899906842624 ∧ -1125899906842624 ≤ (v : Int)
          · rw [if_pos hr, if_pos ⟨hr.2, hr.1⟩]
          · rw [if_neg hr, if_neg (fun h => hr ⟨h.2, h.1⟩)]
set_option maxRecDepth 100000 in
set_option maxHeartbeats 3200000 in
theorem scaled_any (M : Int) (S : Nat) (h0 : -9223372036854775808 ≤ M) (h1 : M ≤ 9223372036854775807) (w : World) :
    Calls Tryz.prog 179 #[.agg #[.int .i64 M, .int .i64 (S : Int)], .int .i64 3] w fun e w' => e = .returned (.tuple #[.int .i64 (scaledD M S).1, .bool (scaledD M S).2]) ∧ Aw [] w w' := by
  have kG := fun W => dgood_any M (S : Int) h0 h1 W
  obtain ⟨R, hR⟩ : ∃ R, scaledD M S = R := ⟨_, rfl⟩
  rw [hR]
  unfold scaledD at hR
  have hA0 := (Aw.refl [] w).alloc (.cells #[.int .i64 M, .int .i64 (S : Int)] 71)
  have hb := Blk.new w 71 #[.int .i64 M, .int .i64 (S : Int)]
  cases hg : goodD M S
  case false =>
    rw [hg] at hR kG
    simp only [Bool.false_and, Bool.false_eq_true, if_false] at hR
    subst hR
    have hb0 := hb
    go_enter Tryz.func179, Tryz.ntmps179
    go_wp2_with (go_at_call 182; (with_reducible refine (kG _).mono ?_); rintro e w1 ⟨rfl, hA1⟩)
    go_ret2
    exact ⟨rfl, hA0.trans hA1⟩
  case true =>
  rw [hg] at hR kG
  by_cases hS : S ≤ 3
  case neg =>
    have d1 : decide ((3 : Int) < (S : Int)) = true := decide_eq_true (by omega)
    have d1n : decide (3 < S) = true := decide_eq_true (by omega)
    rw [decide_eq_false hS] at hR
    simp only [Bool.and_false, Bool.false_eq_true, if_false] at hR
    subst hR
    go_enter Tryz.func179, Tryz.ntmps179
    go_wp2_with (go_at_call 182; (with_reducible refine (kG _).mono ?_); rintro e w1 ⟨rfl, hA1⟩; have hb1 := Blk.aw hb hA1 (by simp); have q1 := (Blk.cell hb1 1).trans rfl)
    go_ret2
    exact ⟨rfl, hA0.trans hA1⟩
  case pos =>
    have d1 : decide ((3 : Int) < (S : Int)) = false := decide_eq_false (by omega)
    have d1n : decide (3 < S) = false := decide_eq_false (by omega)
    rw [decide_eq_true hS] at hR
    simp only [Bool.and_true, if_true] at hR
    have kN : ∀ W, Calls Tryz.prog 139 #[.agg #[.int .i64 M, .int .i64 (S : Int)], .int .i64 3] W fun e w' => e = .returned (.agg #[.bool (decide (M < 0)), .int .u64 (xw (numW (M, S) 3) 0 : Nat), .int .u64 (xw (numW (M, S) 3) 1 : Nat), .int .u64 (xw (numW (M, S) 3) 2 : Nat), .int .u64 (xw (numW (M, S) 3) 3 : Nat), .int .i64 3]) ∧ Aw [] W w' := fun W => numberOf_any M S 3 h0 h1 hS (by omega) W
    have kD : ∀ W, Calls Tryz.prog 220 #[.agg #[.bool (decide (M < 0)), .int .u64 (xw (numW (M, S) 3) 0 : Nat), .int .u64 (xw (numW (M, S) 3) 1 : Nat), .int .u64 (xw (numW (M, S) 3) 2 : Nat), .int .u64 (xw (numW (M, S) 3) 3 : Nat), .int .i64 0]] W fun e w' => DecE (decN (decide (M < 0)) (numW (M, S) 3) 0) e ∧ Aw [] W w' := fun W => ndec_any (decide (M < 0)) (numW (M, S) 3) 0 (by omega) W
    generalize decN (decide (M < 0)) (numW (M, S) 3) 0 = D at *
    generalize numW (M, S) 3 = v at *
    generalize decide (M < 0) = neg at *
    obtain ⟨⟨m, s'⟩, ok⟩ := D
    simp only at hR
    subst hR
    unfold DecE at kD
    simp only at kD
    clear hg hS
    go_enter Tryz.func179, Tryz.ntmps179
    go_wp2_with (first
      | (go_at_call 182; (with_reducible refine (kG _).mono ?_); rintro e w1 ⟨rfl, hA1⟩; have hb1 := Blk.aw hb hA1 (by simp); have q0 := (Blk.cell hb1 0).trans rfl; have q1 := (Blk.cell hb1 1).trans rfl)
      | (go_at_call 139; (with_reducible refine (kN _).mono ?_); rintro e w2 ⟨rfl, hA2⟩; have hn2 := Blk.new w2 200 #[.bool neg, .int .u64 (xw v 0 : Nat), .int .u64 (xw v 1 : Nat), .int .u64 (xw v 2 : Nat), .int .u64 (xw v 3 : Nat), .int .i64 0]; have n0 := (Blk.cell hn2 0).trans rfl; have n1 := (Blk.cell hn2 1).trans rfl; have n2 := (Blk.cell hn2 2).trans rfl; have n3 := (Blk.cell hn2 3).trans rfl; have n4 := (Blk.cell hn2 4).trans rfl; have n5 := (Blk.cell hn2 5).trans rfl)
      | (go_at_call 220; (with_reducible refine (kD _).mono ?_); rintro e w3 ⟨rfl, hA3⟩; have hd3 := Blk.new w3 71 #[.int .i64 m, .int .i64 (s' : Int)]; have m0 := (Blk.cell hd3 0).trans rfl))
    go_ret2
    exact ⟨rfl, ((hA0.trans (hA1.trans (hA2.alloc _))).trans hA3).alloc _⟩
/-- What Seconds tells. -/
def SecE (R : Option Int) (e : Ending) : Prop := e = .returned (.tuple #[.int .i64 (R.getD 0), .bool R.isSome])
theorem istime_any (n : Int) (w : World) : Calls Tryz.prog 180 #[.int .i64 n] w fun e w' => e = .returned (.bool (decide (-1125899906842624 ≤ n) && decide (n ≤ 1125899906842624))) ∧ w' = w := by
  generalize h1 : decide (-1125899906842624 ≤ n) = b1
  generalize h2 : decide (n ≤ 1125899906842624) = b2
  cases b1 <;> cases b2
  all_goals
    go_enter Tryz.func180, Tryz.ntmps180
    go_wp2_with fail
    go_ret
    exact ⟨ret_bool rfl, rfl⟩
set_option maxHeartbeats 1600000 in
theorem secs_any (M : Int) (S : Nat) (h0 : -9223372036854775808 ≤ M) (h1 : M ≤ 9223372036854775807) (w : World) :
    Calls Tryz.prog 127 #[.agg #[.int .i64 M, .int .i64 (S : Int)]] w fun e w' => SecE (secD M S) e ∧ Aw [] w w' := by
  have kS := fun W => scaled_any M S h0 h1 W
  have kT := fun W => istime_any (scaledD M S).1 W
  have HR := Lib.hid (secD_scaled M S h0 h1)
  generalize secD M S = R at *
  generalize scaledD M S = D at *
  obtain ⟨n, ok⟩ := D
  have hA0 := (Aw.refl [] w).alloc (.cells #[.int .i64 M, .int .i64 (S : Int)] 71)
  simp only at kS kT HR
  unfold SecE
  cases ok
  · have HR2 : Hid (R = none) := Lib.hid (by rw [HR.out]; simp)
    clear HR
    go_enter Tryz.func127, Tryz.ntmps127
    go_wp2_with (go_at_call 179; (with_reducible refine (kS _).mono ?_); rintro e w1 ⟨rfl, hA1⟩)
    go_ret2
    exact ⟨by rw [HR2.out]; rfl, hA0.trans hA1⟩
  · generalize hb : (decide (-1125899906842624 ≤ n) && decide (n ≤ 1125899906842624)) = b at *
    have hb' : b = true ↔ (-1125899906842624 ≤ n ∧ n ≤ 1125899906842624) := by rw [← hb]; simp
    cases b
    · have HR2 : Hid (R = none) := Lib.hid (by rw [HR.out, if_neg (fun h => by have := hb'.2 h.2; simp at this)])
      clear HR hb hb'
      go_enter Tryz.func127, Tryz.ntmps127
      go_wp2_with (first
        | (go_at_call 179; (with_reducible refine (kS _).mono ?_); rintro e w1 ⟨rfl, hA1⟩)
        | (go_at_call 180; (with_reducible refine (kT _).mono ?_); rintro e w2 ⟨rfl, hw2⟩; rw [hw2]; clear hw2 w2))
      go_ret2
      exact ⟨by rw [HR2.out]; rfl, hA0.trans hA1⟩
    · have HR2 : Hid (R = some n) := Lib.hid (by rw [HR.out, if_pos ⟨rfl, hb'.1 rfl⟩])
      clear HR hb hb'
      go_enter Tryz.func127, Tryz.ntmps127
      go_wp2_with (first
        | (go_at_call 179; (with_reducible refine (kS _).mono ?_); rintro e w1 ⟨rfl, hA1⟩)
        | (go_at_call 180; (with_reducible refine (kT _).mono ?_); rintro e w2 ⟨rfl, hw2⟩; rw [hw2]; clear hw2 w2))
      go_ret2
      exact ⟨by rw [HR2.out]; rfl, hA0.trans hA1⟩
end
end Go.Proofs.YtcapbikelgcmmaaGreatDoor
