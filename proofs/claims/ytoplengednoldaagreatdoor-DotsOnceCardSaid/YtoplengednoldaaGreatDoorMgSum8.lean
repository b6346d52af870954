/- Wide numbers: four words as a number (no program in sight). Decimals by wide numbers, as plain functions (no program in sight). The walks of sum's wide numbers. The walks of sum's wide numbers: power. The walks of sum's wide numbers: compare. The walks of math/bits.Div64 at ten and of sum's tenth. The walks of sum's small functions on words: abs, of, shared, without; of dec.Good. The walk of sum.number's dec. The walks of sum: counted, numberOf, compare. The walk of sum.Compare. -/
import Derived.Test.YtoplengednoldaaGreatDoorDecDef
import Derived.Test.YtoplengednoldaaGreatDoorDotC
import Derived.Test.YtoplengednoldaaGreatDoorDecC
import Derived.Test.YtoplengednoldaaGreatDoorShelfB
import Derived.Shelf.Spec.BitsCarry
import Derived.BigQuiet
import Derived.Deep.QuietTactic
import Derived.Deep.RegionHeld3
import Derived.ChangeKeysEq
import Derived.Deep.RegionLaw
namespace Go.Proofs.YtoplengednoldaaGreatDoor
set_option linter.unusedVariables false
set_option linter.unusedSimpArgs false
open Go.RowKit
section
/-- A word of a number. -/
def xw (v k : Nat) : Nat := v / 18446744073709551616 ^ k % 18446744073709551616
theorem xw_lt (v k : Nat) : xw v k < 18446744073709551616 := Nat.mod_lt _ (by decide)
/-- A word's product and what came before: the word that stays, what is carried on. -/
def carT (x : Nat → Nat) (n : Nat) : Nat → Nat
  | 0 => 0
  | k + 1 => (x k * n + carT x n k) / 18446744073709551616
def limT (x : Nat → Nat) (n k : Nat) : Nat := (x k * n + carT x n k) % 18446744073709551616
theorem carT_lt (x : Nat → Nat) (n : Nat) (hx : ∀ k, x k < 18446744073709551616) (hn : n < 18446744073709551616) : ∀ k, carT x n k < 18446744073709551616
  | 0 => by show 0 < _; decide
  | k + 1 => by
    have h := carT_lt x n hx hn k
    have h1 := hx k
    unfold carT
    rw [Nat.div_lt_iff_lt_mul (by decide)]
    have : x k * n ≤ 18446744073709551615 * 18446744073709551615 := Nat.mul_le_mul (by omega) (by omega)
    omega
theorem xw_step (v n k : Nat) (P : Nat) (hP : 0 < P) (B : Nat) : v / P % B * n + v % P * n / P = v % (P * B) * n / P := by
  rw [Nat.mod_mul, Nat.add_mul, Nat.mul_assoc, Nat.mul_comm P, Nat.add_mul_div_right _ _ hP, Nat.add_comm]
theorem carT_xw (v n : Nat) : ∀ k, carT (xw v) n k = v % 18446744073709551616 ^ k * n / 18446744073709551616 ^ k
  | 0 => by simp [carT, Nat.mod_one]
  | k + 1 => by
    show (xw v k * n + carT (xw v) n k) / 18446744073709551616 = _
    rw [carT_xw v n k]
    unfold xw
    rw [xw_step v n k _ (Nat.pow_pos (by decide)), Nat.div_div_eq_div_mul, ← Nat.pow_succ]
theorem limT_xw (v n k : Nat) : limT (xw v) n k = xw (v * n) k := by
  unfold limT
  rw [carT_xw]
  unfold xw
  rw [xw_step v n k _ (Nat.pow_pos (by decide))]
  have hP : 0 < 18446744073709551616 ^ k := Nat.pow_pos (by decide)
  generalize 18446744073709551616 ^ k = P at hP
  have h := Nat.div_add_mod v (P * 18446744073709551616)
  conv => rhs; rw [← h]
  rw [Nat.add_mul, Nat.mul_assoc, Nat.mul_assoc, Nat.add_comm, Nat.add_mul_div_left _ _ hP, Nat.add_mul_mod_self_left]
end
section
def cmpZ (a b : Nat) : Int := if a < b then -1 else if b < a then 1 else 0
/-- Which is less, from the top word on. -/
def cmpN (x y : Nat → Nat) : Nat → Int
  | 0 => 0
  | k + 1 => if x k < y k then -1 else if y k < x k then 1 else cmpN x y k
theorem cmpN_xw (v u : Nat) : ∀ k, cmpN (xw v) (xw u) k = cmpZ (v % 18446744073709551616 ^ k) (u % 18446744073709551616 ^ k)
  | 0 => by simp [cmpN, cmpZ, Nat.mod_one]
  | k + 1 => by
    have ih := cmpN_xw v u k
    have hp : (0 : Nat) < 18446744073709551616 ^ k := Nat.pow_pos (by decide)
    rw [Nat.pow_succ, Nat.mod_mul, Nat.mod_mul]
    unfold cmpN
    rw [ih]
    unfold xw
    have h1 := Nat.mod_lt v hp
    have h2 := Nat.mod_lt u hp
    generalize v % 18446744073709551616 ^ k = r at *
    generalize u % 18446744073709551616 ^ k = r' at *
    generalize v / 18446744073709551616 ^ k % 18446744073709551616 = q
    generalize u / 18446744073709551616 ^ k % 18446744073709551616 = q'
    generalize 18446744073709551616 ^ k = P at *
    unfold cmpZ
    by_cases c1 : q < q'
    · have h3 : P * (q + 1) ≤ P * q' := Nat.mul_le_mul_left P c1
      rw [Nat.mul_add, Nat.mul_one] at h3
      rw [if_pos c1, if_pos (by omega)]
    · rw [if_neg c1]
      by_cases c2 : q' < q
      · have h3 : P * (q' + 1) ≤ P * q := Nat.mul_le_mul_left P c2
        rw [Nat.mul_add, Nat.mul_one] at h3
        rw [if_pos c2, if_neg (by omega), if_pos (by omega)]
      · obtain rfl : q = q' := by omega
        rw [if_neg c2]
        (repeat' split) <;> omega
/-- Bits of a wide number. -/
def wMod : Nat := 18446744073709551616 ^ 4
/-- A number without its sign. -/
def absN (m : Int) : Nat := m.natAbs
/-- May a decimal be? -/
def goodD (M S : Int) : Bool := decide (0 ≤ S) && (decide (S ≤ 18) && (!(M == -9223372036854775808) && (S == 0 || !(M.tmod 10 == 0))))
/-- Without noughts behind the point. -/
def stripN : Nat → Nat → Nat × Nat
  | v, 0 => (v, 0)
  | v, s + 1 => if v % 10 = 0 then stripN (v / 10) s else (v, s + 1)
/-- A wide number as a decimal; false: it is none. -/
def decN (neg : Bool) (v s : Nat) : (Int × Nat) × Bool :=
  if v % wMod = 0 then ((0, 0), true)
  else if 18 < (stripN (v % wMod) s).2 ∨ 9223372036854775807 < (stripN (v % wMod) s).1 then ((0, 0), false)
  else ((if neg then -((stripN (v % wMod) s).1 : Int) else ((stripN (v % wMod) s).1 : Int), (stripN (v % wMod) s).2), true)
/-- A number without a divisor, and how often it was one. -/
def withoutN (q : Nat) : Nat → Nat → Nat × Nat
  | 0, n => (n, 0)
  | f + 1, n => if n % q = 0 then ((withoutN q f (n / q)).1, (withoutN q f (n / q)).2 + 1) else (n, 0)
/-- The quotient; false: it is none. -/
def overN (aM aS bM bS : Int) : (Int × Nat) × Bool :=
  if (goodD aM aS && goodD bM bS && !(bM == 0)) = false then ((0, 0), false)
  else
    let g := Nat.gcd (absN aM) (absN bM)
    let t := withoutN 2 64 (absN bM / g)
    let f := withoutN 5 64 t.1
    if f.1 ≠ 1 then ((0, 0), false)
    else
      let s := max t.2 f.2
      let w := absN aM / g * 2 ^ (s - t.2) * 5 ^ (s - f.2)
      let e : Int := (s : Int) + aS - bS
      let neg := (decide (aM < 0)) != (decide (bM < 0))
      if e < 0 then decN neg (w * 10 ^ (-e).toNat) 0 else decN neg w e.toNat
def countD (M S : Int) : Int × Nat := if goodD M S then (M, S.toNat) else (0, 0)
def numW (a : Int × Nat) (s : Nat) : Nat := absN a.1 * 10 ^ (s - a.2)
def cmpNum (n1 : Bool) (v : Nat) (n2 : Bool) (u : Nat) : Int :=
  if n1 && n2 then cmpZ (u % wMod) (v % wMod) else if n1 then -1 else if n2 then 1 else cmpZ (v % wMod) (u % wMod)
def cmpD (aM aS bM bS : Int) : Int :=
  let a := countD aM aS
  let b := countD bM bS
  let s := max a.2 b.2
  cmpNum (decide (a.1 < 0)) (numW a s) (decide (b.1 < 0)) (numW b s)
theorem withoutN_pos (q : Nat) (hq : 2 ≤ q) : ∀ f n, 0 < n → n < 2 ^ f → 0 < (withoutN q f n).1 ∧ (withoutN q f n).1 ≤ n ∧ (withoutN q f n).2 ≤ f
  | 0, n, h, k => by simp at k; omega
  | f + 1, n, h, k => by
    unfold withoutN
    split
    · rename_i hd
      have h1 : n / q < 2 ^ f := by
        rw [Nat.pow_succ] at k
        rw [Nat.div_lt_iff_lt_mul (by omega)]
        have : 2 ^ f * 2 ≤ 2 ^ f * q := Nat.mul_le_mul_left _ hq
        omega
      have h2 : 0 < n / q := Nat.div_pos (Nat.le_of_dvd h (Nat.dvd_of_mod_eq_zero hd)) (by omega)
      have ih := withoutN_pos q hq f (n / q) h2 h1
      have : n / q ≤ n := Nat.div_le_self _ _
      simp only; omega
    · exact ⟨h, Nat.le_refl _, Nat.zero_le _⟩
/-- Long division by ten, word by word, from the top: the rest ahead of a word. -/
def rstT (x : Nat → Nat) : Nat → Nat
  | 0 => 0
  | k + 1 => (rstT x k * 18446744073709551616 + x (3 - k)) % 10
def quoT (x : Nat → Nat) (k : Nat) : Nat := (rstT x k * 18446744073709551616 + x (3 - k)) / 10
theorem rstT_lt (x : Nat → Nat) : ∀ k, rstT x k < 10
  | 0 => by show 0 < 10; decide
  | k + 1 => Nat.mod_lt _ (by decide)
theorem quoT_lt (x : Nat → Nat) (hx : ∀ k, x k < 18446744073709551616) (k : Nat) : quoT x k < 18446744073709551616 := by
  have h1 := rstT_lt x k
  have h2 := hx (3 - k)
  unfold quoT
  omega
theorem ten_step (u : Nat) : ((u / 18446744073709551616) % 10 * 18446744073709551616 + u % 18446744073709551616) / 10 = u / 10 % 18446744073709551616 ∧ ((u / 18446744073709551616) % 10 * 18446744073709551616 + u % 18446744073709551616) % 10 = u % 10 := by
  obtain ⟨p, hp⟩ : ∃ p, u / 18446744073709551616 = p := ⟨_, rfl⟩
  obtain ⟨r, hr⟩ : ∃ r, u % 18446744073709551616 = r := ⟨_, rfl⟩
  obtain ⟨a, ha⟩ : ∃ a, p / 10 = a := ⟨_, rfl⟩
  obtain ⟨b, hb⟩ : ∃ b, p % 10 = b := ⟨_, rfl⟩
  have hu : u = 18446744073709551616 * (10 * a + b) + r := by omega
  rw [hp, hr, hb, hu]
  constructor
  · have : (18446744073709551616 * (10 * a + b) + r) / 10 = 18446744073709551616 * a + (b * 18446744073709551616 + r) / 10 := by omega
    rw [this]; omega
  · omega
theorem pow_step (v k : Nat) (h : k ≤ 3) : v / 18446744073709551616 ^ (4 - k) = v / 18446744073709551616 ^ (3 - k) / 18446744073709551616 := by
  obtain ⟨j, hj⟩ : ∃ j, 3 - k = j := ⟨_, rfl⟩
  have h4 : 4 - k = j + 1 := by omega
  rw [hj, h4, Nat.div_div_eq_div_mul, Nat.pow_succ]
theorem rst_xw (v : Nat) (hv : v < wMod) : ∀ k, k ≤ 4 → rstT (xw v) k = v / 18446744073709551616 ^ (4 - k) % 10
  | 0, _ => by
    unfold wMod at hv
    have h4 : v / 18446744073709551616 ^ (4 - 0) = 0 := Nat.div_eq_of_lt hv
    rw [h4, rstT]
  | k + 1, h => by
    have ih := rst_xw v hv k (by omega)
    have e1 : rstT (xw v) (k + 1) = (rstT (xw v) k * 18446744073709551616 + xw v (3 - k)) % 10 := by rw [rstT]
    rw [e1, ih, pow_step v k (by omega), show 4 - (k + 1) = 3 - k by omega]
    unfold xw
    exact (ten_step _).2
theorem quo_xw (v : Nat) (hv : v < wMod) (k : Nat) (h : k ≤ 3) : quoT (xw v) k = xw (v / 10) (3 - k) := by
  unfold quoT
  rw [rst_xw v hv k (by omega), pow_step v k h]
  have h2 : v / 10 / 18446744073709551616 ^ (3 - k) = v / 18446744073709551616 ^ (3 - k) / 10 := by rw [Nat.div_div_eq_div_mul, Nat.div_div_eq_div_mul, Nat.mul_comm]
  unfold xw
  rw [h2]
  exact (ten_step _).1
theorem rst_all (v : Nat) (hv : v < wMod) : rstT (xw v) 4 = v % 10 := by
  rw [rst_xw v hv 4 (by omega)]; simp
theorem xw_mod (v k : Nat) (h : k < 4) : xw (v % wMod) k = xw v k := by
  unfold xw wMod
  have e : (18446744073709551616 : Nat) ^ 4 = 18446744073709551616 ^ k * 18446744073709551616 ^ (4 - k) := by rw [← Nat.pow_add]; congr 1; omega
  rw [e, Nat.mod_mul_right_div_self, Nat.mod_mod_of_dvd]
  exact ⟨18446744073709551616 ^ (3 - k), by rw [← Nat.pow_succ', show (3 - k).succ = 4 - k by omega]⟩
end
section
/-- math/bits.Add64 at this dump: the model stands in for it. -/
theorem add64_law (x y c : Nat) (hc : c ≤ 1) (w : World) :
    (callFunc 263 #[.int .u64 x, .int .u64 y, .int .u64 c]).run Tryz.prog w =
      .ok (.value (.tuple #[.int .u64 (((x + y + c) % 18446744073709551616 : Nat) : Int), .int .u64 (((x + y + c) / 18446744073709551616 : Nat) : Int)])) w := by
  rw [run_callFunc_extern Tryz.func263 (by kernel_rfl) (by kernel_rfl) (by kernel_rfl) (e := add64Entry) (by kernel_rfl), run_add64 x y c (by omega) (by omega) (by omega) (by omega)]
  simp only [Result.andThen]
  congr 5 <;> omega
/-- One round, its values as opaque numbers. -/
theorem round_T (x : Nat → Nat) (n k : Nat) (hx : ∀ k, x k < 18446744073709551616) (hn : n < 18446744073709551616) :
    ∃ hi lo cr : Nat, (∀ W, Calls Tryz.prog 262 #[.int .u64 (x k : Int), .int .u64 (n : Int)] W fun e w' => e = .returned (.tuple #[.int .u64 (hi : Int), .int .u64 (lo : Int)]) ∧ w' = W) ∧
      (∀ W, (callFunc 263 #[.int .u64 (lo : Int), .int .u64 (carT x n k : Int), .int .u64 0]).run Tryz.prog W = .ok (.value (.tuple #[.int .u64 (limT x n k : Int), .int .u64 (cr : Int)])) W) ∧
      IntKind.u64.wrap ((hi : Int) + cr) = (carT x n (k + 1) : Int) := by
  have hc := carT_lt x n hx hn
  have h1 := hc k
  have h2 := hc (k + 1)
  refine ⟨x k * n / 18446744073709551616, x k * n % 18446744073709551616, (x k * n % 18446744073709551616 + carT x n k) / 18446744073709551616, fun W => Tryz.bits_Mul64 (x k) n (hx k) hn W, fun W => ?_, ?_⟩
  · have h := add64_law (x k * n % 18446744073709551616) (carT x n k) 0 (by decide) W
    rw [Nat.add_zero] at h
    have e : (x k * n % 18446744073709551616 + carT x n k) % 18446744073709551616 = limT x n k := by unfold limT; omega
    rw [e] at h
    exact h
  · have e : x k * n / 18446744073709551616 + (x k * n % 18446744073709551616 + carT x n k) / 18446744073709551616 = carT x n (k + 1) := by
      show _ = (x k * n + carT x n k) / 18446744073709551616
      omega
    rw [← Int.natCast_add, e, IntKind.wrap_u64]
    omega
def cellsT (x : Nat → Nat) (n k : Nat) : Array Value := #[.int .u64 ((if 0 < k then limT x n 0 else x 0 : Nat) : Int), .int .u64 ((if 1 < k then limT x n 1 else x 1 : Nat) : Int), .int .u64 ((if 2 < k then limT x n 2 else x 2 : Nat) : Int), .int .u64 ((if 3 < k then limT x n 3 else x 3 : Nat) : Int)]
set_option maxRecDepth 100000 in
set_option maxHeartbeats 1600000 in
theorem times_any (x : Nat → Nat) (n : Nat) (w : World) (hx : ∀ k, x k < 18446744073709551616) (hn : n < 18446744073709551616) :
    Calls Tryz.prog 250 #[.agg (cellsT x n 0), .int .u64 (n : Int)] w fun e w' => e = .returned (.agg (cellsT x n 4)) ∧ Aw [] w w' := by
  have hc := carT_lt x n hx hn
  have kM := fun k W => Tryz.bits_Mul64 (x k) n (hx k) hn W
  show Calls Tryz.prog 250 #[.agg #[.int .u64 (x 0 : Int), .int .u64 (x 1 : Int), .int .u64 (x 2 : Int), .int .u64 (x 3 : Int)], .int .u64 (n : Int)] w _
  go_enter Tryz.func250, Tryz.ntmps250
  go_wp2_with fail
  have hB0 := (Blk.new w 232 (cellsT x n 0))
  have hB1 := (Blk.new (w.alloc (Obj.cells (cellsT x n 0) 232)) 232 #[.int .u64 0, .int .u64 0, .int .u64 0, .int .u64 0])
  have hz : (w.alloc (Obj.cells (cellsT x n 0) 232)).heap.size = w.heap.size + 1 := by simp
  rw [hz] at hB1
  go_loopw [5, 11] (fun c i wr => ∃ k : Nat, k ≤ 4 ∧ c = .int .u64 (carT x n k : Nat) ∧ i = .int .i64 k ∧ Blk wr w.heap.size 232 (cellsT x n k) ∧ Blk wr (w.heap.size + 1) 232 #[.int .u64 0, .int .u64 0, .int .u64 0, .int .u64 0] ∧ Aw [] w wr) (fun _ i _ => 4 - (intOf i).toNat)
  case atStart => exact ⟨0, by omega, rfl, rfl, Blk.aw hB0 ((Aw.refl [] _).alloc _) (by simp), hB1, ((Aw.refl _ _).alloc _).alloc _⟩
  case round =>
    obtain ⟨k, hk, rfl, rfl, hb0, hb1, hA⟩ := hrel
    clear hB0 hB1
    have d0 := (Blk.cell hb1 0).trans rfl
    have d1 := (Blk.cell hb1 1).trans rfl
    have d2 := (Blk.cell hb1 2).trans rfl
    have d3 := (Blk.cell hb1 3).trans rfl
    have f0 := Blk.frozen hb1 0
    have f1 := Blk.frozen hb1 1
    have f2 := Blk.frozen hb1 2
    have f3 := Blk.frozen hb1 3
    have e4 : k = 0 ∨ k = 1 ∨ k = 2 ∨ k = 3 ∨ k = 4 := by omega
    rcases e4 with rfl | rfl | rfl | rfl | rfl
    case inr.inr.inr.inr =>
      have hb : Blk wr w.heap.size 232 #[.int .u64 (limT x n 0 : Nat), .int .u64 (limT x n 1 : Nat), .int .u64 (limT x n 2 : Nat), .int .u64 (limT x n 3 : Nat)] := hb0
      have c0 := (Blk.cell hb 0).trans rfl
      have c1 := (Blk.cell hb 1).trans rfl
      have c2 := (Blk.cell hb 2).trans rfl
      have c3 := (Blk.cell hb 3).trans rfl
      go_wp2_with fail
      refine bodyPost_ret (v := .agg #[.int .u64 (limT x n 0 : Nat), .int .u64 (limT x n 1 : Nat), .int .u64 (limT x n 2 : Nat), .int .u64 (limT x n 3 : Nat)]) (by simp [results, Tryz.results250, go_sem, d0, d1, d2, d3]) rfl ⟨rfl, (((hA.setCell (.inr (Nat.le_succ _)) _).setCell (.inr (Nat.le_succ _)) _).setCell (.inr (Nat.le_succ _)) _).setCell (.inr (Nat.le_succ _)) _⟩
    case inl =>
      obtain ⟨hi, lo, cr, kM, kA, hw⟩ := round_T x n 0 hx hn
      have hb : Blk wr w.heap.size 232 #[.int .u64 (x 0 : Nat), .int .u64 (x 1 : Nat), .int .u64 (x 2 : Nat), .int .u64 (x 3 : Nat)] := hb0
      have c0 := (Blk.cell hb 0).trans rfl
      have g0 := Blk.frozen hb 0
      go_wp2_with first
        | (go_at_call 262; refine (kM _).mono ?_; rintro e w1 ⟨rfl, hw1⟩; rw [hw1]; clear hw1 w1)
        | (simp only [kA])
      exact ⟨⟨1, by omega, rfl, rfl, Blk.set_ hb 0 _, hb1.far (by simp) _, hA.setCell (.inr (Nat.le_refl _)) _⟩, by decide⟩
    case inr.inl =>
      obtain ⟨hi, lo, cr, kM, kA, hw⟩ := round_T x n 1 hx hn
      have hb : Blk wr w.heap.size 232 #[.int .u64 (limT x n 0 : Nat), .int .u64 (x 1 : Nat), .int .u64 (x 2 : Nat), .int .u64 (x 3 : Nat)] := hb0
      have c0 := (Blk.cell hb 1).trans rfl
      have g0 := Blk.frozen hb 1
      go_wp2_with first
        | (go_at_call 262; refine (kM _).mono ?_; rintro e w1 ⟨rfl, hw1⟩; rw [hw1]; clear hw1 w1)
        | (simp only [kA])
      exact ⟨⟨2, by omega, rfl, rfl, Blk.set_ hb 1 _, hb1.far (by simp) _, hA.setCell (.inr (Nat.le_refl _)) _⟩, by decide⟩
    case inr.inr.inl =>
      obtain ⟨hi, lo, cr, kM, kA, hw⟩ := round_T x n 2 hx hn
      have hb : Blk wr w.heap.size 232 #[.int .u64 (limT x n 0 : Nat), .int .u64 (limT x n 1 : Nat), .int .u64 (x 2 : Nat), .int .u64 (x 3 : Nat)] := hb0
      have c0 := (Blk.cell hb 2).trans rfl
      have g0 := Blk.frozen hb 2
      go_wp2_with first
        | (go_at_call 262; refine (kM _).mono ?_; rintro e w1 ⟨rfl, hw1⟩; rw [hw1]; clear hw1 w1)
        | (simp only [kA])
      exact ⟨⟨3, by omega, rfl, rfl, Blk.set_ hb 2 _, hb1.far (by simp) _, hA.setCell (.inr (Nat.le_refl _)) _⟩, by decide⟩
    case inr.inr.inr.inl =>
      obtain ⟨hi, lo, cr, kM, kA, hw⟩ := round_T x n 3 hx hn
      have hb : Blk wr w.heap.size 232 #[.int .u64 (limT x n 0 : Nat), .int .u64 (limT x n 1 : Nat), .int .u64 (limT x n 2 : Nat), .int .u64 (x 3 : Nat)] := hb0
      have c0 := (Blk.cell hb 3).trans rfl
      have g0 := Blk.frozen hb 3
      go_wp2_with first
        | (go_at_call 262; refine (kM _).mono ?_; rintro e w1 ⟨rfl, hw1⟩; rw [hw1]; clear hw1 w1)
        | (simp only [kA])
      exact ⟨⟨4, by omega, rfl, rfl, Blk.set_ hb 3 _, hb1.far (by simp) _, hA.setCell (.inr (Nat.le_refl _)) _⟩, by decide⟩
/-- A number as a wide number's words. -/
def wL (v : Nat) : Array Value := #[.int .u64 (xw v 0 : Nat), .int .u64 (xw v 1 : Nat), .int .u64 (xw v 2 : Nat), .int .u64 (xw v 3 : Nat)]
theorem times_wide (v n : Nat) (w : World) (hn : n < 18446744073709551616) :
    Calls Tryz.prog 250 #[.agg (wL v), .int .u64 (n : Int)] w fun e w' => e = .returned (.agg (wL (v * n))) ∧ Aw [] w w' := by
  have h := times_any (xw v) n w (xw_lt v) hn
  have e : cellsT (xw v) n 4 = wL (v * n) := by
    unfold wL
    rw [← limT_xw, ← limT_xw, ← limT_xw, ← limT_xw]
    rfl
  rw [e] at h
  exact h
end
section
set_option maxRecDepth 100000 in
set_option maxHeartbeats 1600000 in
theorem power_wide (v n t : Nat) (w : World) (hn : n < 18446744073709551616) (ht : t ≤ 4611686018427387904) :
    Calls Tryz.prog 211 #[.agg (wL v), .int .u64 (n : Int), .int .i64 (t : Int)] w fun e w' => e = .returned (.agg (wL (v * n ^ t))) ∧ Aw [] w w' := by
  have kT := fun v W => times_wide v n W hn
  unfold wL at kT
  obtain ⟨T, hT⟩ : ∃ T, v * n ^ t = T := ⟨_, rfl⟩
  rw [hT]
  have HT := Lib.hid hT
  clear hT
  have hB0 := (Blk.new w 232 (wL v))
  have hB1 := (Blk.new (w.alloc (Obj.cells (wL v) 232)) 232 #[.int .u64 0, .int .u64 0, .int .u64 0, .int .u64 0])
  have hz : (w.alloc (Obj.cells (wL v) 232)).heap.size = w.heap.size + 1 := by simp
  rw [hz] at hB1
  go_enter Tryz.func211, Tryz.ntmps211
  go_wp2_with fail
  go_loopw [8] (fun i wr => ∃ k u : Nat, k ≤ t ∧ i = .int .i64 k ∧ Hid (u = v * n ^ k) ∧ Blk wr w.heap.size 232 #[.int .u64 (xw u 0 : Nat), .int .u64 (xw u 1 : Nat), .int .u64 (xw u 2 : Nat), .int .u64 (xw u 3 : Nat)] ∧ Blk wr (w.heap.size + 1) 232 #[.int .u64 0, .int .u64 0, .int .u64 0, .int .u64 0] ∧ Aw [] w wr) (fun i _ => t - (intOf i).toNat)
  case atStart => exact ⟨0, v, by omega, rfl, Lib.hid (by simp), Blk.aw hB0 ((Aw.refl [] _).alloc _) (by simp), hB1, ((Aw.refl _ _).alloc _).alloc _⟩
  case round =>
    obtain ⟨k, u, hk, rfl, HU, hb0, hb1, hA⟩ := hrel
    clear hB0 hB1
    have c0 := (Blk.cell hb0 0).trans rfl
    have c1 := (Blk.cell hb0 1).trans rfl
    have c2 := (Blk.cell hb0 2).trans rfl
    have c3 := (Blk.cell hb0 3).trans rfl
    by_cases hlt : k < t
    · have hd : decide ((k : Int) < (t : Int)) = true := decide_eq_true (by omega)
      have hdn : decide (k < t) = true := decide_eq_true hlt
      have r1 : IntKind.i64.wrap ((k : Int) + 1) = (k : Int) + 1 := IntWalk.i64_in _ (by omega)
      have ku := fun W => kT u W
      clear kT
      go_wp2_with (go_at_call 250; refine (ku _).mono ?_; rintro e w1 ⟨rfl, hA1⟩; have hb2 := Blk.aw hb0 hA1 (by simp); have d0 := (Blk.cell hb2 0).trans rfl; have d1 := (Blk.cell hb2 1).trans rfl; have d2 := (Blk.cell hb2 2).trans rfl; have d3 := (Blk.cell hb2 3).trans rfl; have f0 := Blk.frozen hb2 0; have f1 := Blk.frozen hb2 1; have f2 := Blk.frozen hb2 2; have f3 := Blk.frozen hb2 3)
      have hb3 := (((Blk.aw hb1 hA1 (by simp)).far (p := ⟨w.heap.size, 0, none⟩) (by simp) (.int .u64 (xw (u * n) 0 : Nat))).far (p := ⟨w.heap.size, 1, none⟩) (by simp) (.int .u64 (xw (u * n) 1 : Nat))).far (p := ⟨w.heap.size, 2, none⟩) (by simp) (.int .u64 (xw (u * n) 2 : Nat)) |>.far (p := ⟨w.heap.size, 3, none⟩) (by simp) (.int .u64 (xw (u * n) 3 : Nat))
      refine ⟨⟨k + 1, u * n, hlt, by simp, Lib.hid (by rw [HU.out, Nat.pow_succ, Nat.mul_assoc]), ((((hb2.set_ 0 _).set_ 1 _).set_ 2 _).set_ 3 _), hb3, (((((hA.trans hA1).setCell (.inr (Nat.le_refl _)) _).setCell (.inr (Nat.le_refl _)) _).setCell (.inr (Nat.le_refl _)) _).setCell (.inr (Nat.le_refl _)) _)⟩, ?_⟩
      simp only [intOf]
      omega
    · have hd : decide ((k : Int) < (t : Int)) = false := decide_eq_false (by omega)
      have hdn : decide (k < t) = false := decide_eq_false hlt
      have d0 := (Blk.cell hb1 0).trans rfl
      have d1 := (Blk.cell hb1 1).trans rfl
      have d2 := (Blk.cell hb1 2).trans rfl
      have d3 := (Blk.cell hb1 3).trans rfl
      have f0 := Blk.frozen hb1 0
      have f1 := Blk.frozen hb1 1
      have f2 := Blk.frozen hb1 2
      have f3 := Blk.frozen hb1 3
      have HE : Hid (u = T) := Lib.hid (by rw [HU.out, ← HT.out, show k = t by omega])
      clear HU HT
      go_wp2_with fail
      refine bodyPost_ret (v := .agg (wL u)) (by simp [results, Tryz.results211, go_sem, d0, d1, d2, d3, wL]) rfl ⟨by rw [HE.out], (((hA.setCell (.inr (Nat.le_succ _)) _).setCell (.inr (Nat.le_succ _)) _).setCell (.inr (Nat.le_succ _)) _).setCell (.inr (Nat.le_succ _)) _⟩
end
section
set_option maxRecDepth 100000 in
set_option maxHeartbeats 1600000 in
theorem compare_any (x y : Nat → Nat) (w : World) :
    Calls Tryz.prog 212 #[.agg #[.int .u64 (x 0 : Nat), .int .u64 (x 1 : Nat), .int .u64 (x 2 : Nat), .int .u64 (x 3 : Nat)], .agg #[.int .u64 (y 0 : Nat), .int .u64 (y 1 : Nat), .int .u64 (y 2 : Nat), .int .u64 (y 3 : Nat)]] w fun e w' => e = .returned (.int .i64 (cmpN x y 4)) ∧ Aw [] w w' := by
  have hB0 := (Blk.new w 232 #[.int .u64 (x 0 : Nat), .int .u64 (x 1 : Nat), .int .u64 (x 2 : Nat), .int .u64 (x 3 : Nat)])
  have hB1 := (Blk.new (w.alloc (Obj.cells #[.int .u64 (x 0 : Nat), .int .u64 (x 1 : Nat), .int .u64 (x 2 : Nat), .int .u64 (x 3 : Nat)] 232)) 232 #[.int .u64 (y 0 : Nat), .int .u64 (y 1 : Nat), .int .u64 (y 2 : Nat), .int .u64 (y 3 : Nat)])
  have hz : (w.alloc (Obj.cells #[.int .u64 (x 0 : Nat), .int .u64 (x 1 : Nat), .int .u64 (x 2 : Nat), .int .u64 (x 3 : Nat)] 232)).heap.size = w.heap.size + 1 := by simp
  rw [hz] at hB1
  obtain ⟨T, hT⟩ : ∃ T, cmpN x y 4 = T := ⟨_, rfl⟩
  rw [hT]
  have HT := Lib.hid hT
  clear hT
  go_enter Tryz.func212, Tryz.ntmps212
  go_wp2_with fail
  go_loopw [5] (fun i wr => ∃ k : Nat, k ≤ 4 ∧ i = .int .i64 ((k : Int) - 1) ∧ Hid (cmpN x y k = T) ∧ Blk wr w.heap.size 232 #[.int .u64 (x 0 : Nat), .int .u64 (x 1 : Nat), .int .u64 (x 2 : Nat), .int .u64 (x 3 : Nat)] ∧ Blk wr (w.heap.size + 1) 232 #[.int .u64 (y 0 : Nat), .int .u64 (y 1 : Nat), .int .u64 (y 2 : Nat), .int .u64 (y 3 : Nat)] ∧ Aw [] w wr) (fun i _ => (intOf i + 1).toNat)
  case atStart => exact ⟨4, by omega, rfl, HT, Blk.aw hB0 ((Aw.refl [] _).alloc _) (by simp), hB1, ((Aw.refl _ _).alloc _).alloc _⟩
  case round =>
    obtain ⟨k, hk, rfl, HU, hb0, hb1, hA⟩ := hrel
    clear hB0 hB1
    have c0 := (Blk.cell hb0 0).trans rfl
    have c1 := (Blk.cell hb0 1).trans rfl
    have c2 := (Blk.cell hb0 2).trans rfl
    have c3 := (Blk.cell hb0 3).trans rfl
    have d0 := (Blk.cell hb1 0).trans rfl
    have d1 := (Blk.cell hb1 1).trans rfl
    have d2 := (Blk.cell hb1 2).trans rfl
    have d3 := (Blk.cell hb1 3).trans rfl
    have e4 : k = 0 ∨ k = 1 ∨ k = 2 ∨ k = 3 ∨ k = 4 := by omega
    rcases e4 with rfl | rfl | rfl | rfl | rfl
    case inl =>
      go_wp2_with fail
      refine bodyPost_ret (v := .int .i64 0) (by simp [results, Tryz.results212, go_sem]) rfl ⟨by rw [← HU.out]; rfl, hA⟩
    case inr.inl =>
      by_cases h1 : x 0 < y 0
      · have d5 : decide ((x 0 : Int) < (y 0 : Int)) = true := decide_eq_true (by omega)
        have d5n : decide (x 0 < y 0) = true := decide_eq_true h1
        have HE : Hid (T = -1) := Lib.hid (by rw [← HU.out]; simp [cmpN, h1])
        clear HU HT
        go_wp2_with fail
        go_quiet (fail)
        go_wp2_with fail
        exact bodyPost_ret (v := .int .i64 (-1)) (by simp [results, Tryz.results212, go_sem]) rfl ⟨by rw [HE.out], hA.drewN _⟩
      · have d5 : decide ((x 0 : Int) < (y 0 : Int)) = false := decide_eq_false (by omega)
        have d5n : decide (x 0 < y 0) = false := decide_eq_false h1
        by_cases h2 : y 0 < x 0
        · have d6 : decide ((y 0 : Int) < (x 0 : Int)) = true := decide_eq_true (by omega)
          have d6n : decide (y 0 < x 0) = true := decide_eq_true h2
          have HE : Hid (T = 1) := Lib.hid (by rw [← HU.out]; simp [cmpN, h1, h2])
          clear HU HT
          go_wp2_with fail
          go_quiet (fail)
          go_wp2_with fail
          go_quiet (fail)
          go_wp2_with fail
          exact bodyPost_ret (v := .int .i64 1) (by simp [results, Tryz.results212, go_sem]) rfl ⟨by rw [HE.out], (hA.drewN _).drewN _⟩
        · have d6 : decide ((y 0 : Int) < (x 0 : Int)) = false := decide_eq_false (by omega)
          have d6n : decide (y 0 < x 0) = false := decide_eq_false h2
          have HE : Hid (cmpN x y 0 = T) := Lib.hid (by rw [← HU.out]; simp [cmpN, h1, h2])
          clear HU HT
          go_wp2_with fail
          go_quiet (fail)
          go_wp2_with fail
          go_quiet (fail)
          go_wp2_with fail
          exact ⟨⟨0, by omega, rfl, HE, hb0.drewN _, hb1.drewN _, hA.drewN _⟩, by decide⟩
    case inr.inr.inl =>
      by_cases h1 : x 1 < y 1
      · have d5 : decide ((x 1 : Int) < (y 1 : Int)) = true := decide_eq_true (by omega)
        have d5n : decide (x 1 < y 1) = true := decide_eq_true h1
        have HE : Hid (T = -1) := Lib.hid (by rw [← HU.out]; simp [cmpN, h1])
        clear HU HT
        go_wp2_with fail
        go_quiet (fail)
        go_wp2_with fail
        exact bodyPost_ret (v := .int .i64 (-1)) (by simp [results, Tryz.results212, go_sem]) rfl ⟨by rw [HE.out], hA.drewN _⟩
      · have d5 : decide ((x 1 : Int) < (y 1 : Int)) = false := decide_eq_false (by omega)
        have d5n : decide (x 1 < y 1) = false := decide_eq_false h1
        by_cases h2 : y 1 < x 1
        · have d6 : decide ((y 1 : Int) < (x 1 : Int)) = true := decide_eq_true (by omega)
          have d6n : decide (y 1 < x 1) = true := decide_eq_true h2
          have HE : Hid (T = 1) := Lib.hid (by rw [← HU.out]; simp [cmpN, h1, h2])
          clear HU HT
          go_wp2_with fail
          go_quiet (fail)
          go_wp2_with fail
          go_quiet (fail)
          go_wp2_with fail
          exact bodyPost_ret (v := .int .i64 1) (by simp [results, Tryz.results212, go_sem]) rfl ⟨by rw [HE.out], (hA.drewN _).drewN _⟩
        · have d6 : decide ((y 1 : Int) < (x 1 : Int)) = false := decide_eq_false (by omega)
          have d6n : decide (y 1 < x 1) = false := decide_eq_false h2
          have HE : Hid (cmpN x y 1 = T) := Lib.hid (by rw [← HU.out]; simp [cmpN, h1, h2])
          clear HU HT
          go_wp2_with fail
          go_quiet (fail)
          go_wp2_with fail
          go_quiet (fail)
          go_wp2_with fail
          exact ⟨⟨1, by omega, rfl, HE, hb0.drewN _, hb1.drewN _, hA.drewN _⟩, by decide⟩
    case inr.inr.inr.inl =>
      by_cases h1 : x 2 < y 2
      · have d5 : decide ((x 2 : Int) < (y 2 : Int)) = true := decide_eq_true (by omega)
        have d5n : decide (x 2 < y 2) = true := decide_eq_true h1
        have HE : Hid (T = -1) := Lib.hid (by rw [← HU.out]; simp [cmpN, h1])
        clear HU HT
        go_wp2_with fail
        go_quiet (fail)
        go_wp2_with fail
        exact bodyPost_ret (v := .int .i64 (-1)) (by simp [results, Tryz.results212, go_sem]) rfl ⟨by rw [HE.out], hA.drewN _⟩
      · have d5 : decide ((x 2 : Int) < (y 2 : Int)) = false := decide_eq_false (by omega)
        have d5n : decide (x 2 < y 2) = false := decide_eq_false h1
        by_cases h2 : y 2 < x 2
        · have d6 : decide ((y 2 : Int) < (x 2 : Int)) = true := decide_eq_true (by omega)
          have d6n : decide (y 2 < x 2) = true := decide_eq_true h2
          have HE : Hid (T = 1) := Lib.hid (by rw [← HU.out]; simp [cmpN, h1, h2])
          clear HU HT
          go_wp2_with fail
          go_quiet (fail)
          go_wp2_with fail
          go_quiet (fail)
          go_wp2_with fail
          exact bodyPost_ret (v := .int .i64 1) (by simp [results, Tryz.results212, go_sem]) rfl ⟨by rw [HE.out], (hA.drewN _).drewN _⟩
        · have d6 : decide ((y 2 : Int) < (x 2 : Int)) = false := decide_eq_false (by omega)
          have d6n : decide (y 2 < x 2) = false := decide_eq_false h2
          have HE : Hid (cmpN x y 2 = T) := Lib.hid (by rw [← HU.out]; simp [cmpN, h1, h2])
          clear HU HT
          go_wp2_with fail
          go_quiet (fail)
          go_wp2_with fail
          go_quiet (fail)
          go_wp2_with fail
          exact ⟨⟨2, by omega, rfl, HE, hb0.drewN _, hb1.drewN _, hA.drewN _⟩, by decide⟩
    case inr.inr.inr.inr =>
      by_cases h1 : x 3 < y 3
      · have d5 : decide ((x 3 : Int) < (y 3 : Int)) = true := decide_eq_true (by omega)
        have d5n : decide (x 3 < y 3) = true := decide_eq_true h1
        have HE : Hid (T = -1) := Lib.hid (by rw [← HU.out]; simp [cmpN, h1])
        clear HU HT
        go_wp2_with fail
        go_quiet (fail)
        go_wp2_with fail
        exact bodyPost_ret (v := .int .i64 (-1)) (by simp [results, Tryz.results212, go_sem]) rfl ⟨by rw [HE.out], hA.drewN _⟩
      · have d5 : decide ((x 3 : Int) < (y 3 : Int)) = false := decide_eq_false (by omega)
        have d5n : decide (x 3 < y 3) = false := decide_eq_false h1
        by_cases h2 : y 3 < x 3
        · have d6 : decide ((y 3 : Int) < (x 3 : Int)) = true := decide_eq_true (by omega)
          have d6n : decide (y 3 < x 3) = true := decide_eq_true h2
          have HE : Hid (T = 1) := Lib.hid (by rw [← HU.out]; simp [cmpN, h1, h2])
          clear HU HT
          go_wp2_with fail
          go_quiet (fail)
          go_wp2_with fail
          go_quiet (fail)
          go_wp2_with fail
          exact bodyPost_ret (v := .int .i64 1) (by simp [results, Tryz.results212, go_sem]) rfl ⟨by rw [HE.out], (hA.drewN _).drewN _⟩
        · have d6 : decide ((y 3 : Int) < (x 3 : Int)) = false := decide_eq_false (by omega)
          have d6n : decide (y 3 < x 3) = false := decide_eq_false h2
          have HE : Hid (cmpN x y 3 = T) := Lib.hid (by rw [← HU.out]; simp [cmpN, h1, h2])
          clear HU HT
          go_wp2_with fail
          go_quiet (fail)
          go_wp2_with fail
          go_quiet (fail)
          go_wp2_with fail
          exact ⟨⟨3, by omega, rfl, HE, hb0.drewN _, hb1.drewN _, hA.drewN _⟩, by decide⟩
theorem compare_wide (v u : Nat) (w : World) :
    Calls Tryz.prog 212 #[.agg (wL v), .agg (wL u)] w fun e w' => e = .returned (.int .i64 (cmpZ (v % wMod) (u % wMod))) ∧ Aw [] w w' := by
  have h := compare_any (xw v) (xw u) w
  rw [cmpN_xw] at h
  exact h
end
section
theorem wr_u64 : ∀ n : Int, 0 ≤ n → n < 2 ^ 64 → IntKind.u64.wrap n = n := fun n h0 h1 => by rw [IntKind.wrap_u64]; omega
theorem wr_lt {n : Int} {m : Nat} (h : n = m) (h1 : m < 18446744073709551616) : IntKind.u64.wrap n = m := by
  rw [h, IntKind.wrap_u64]; omega
theorem wr_mod (n : Int) : ∃ q : Int, IntKind.u64.wrap n = n - 18446744073709551616 * q := ⟨n / 18446744073709551616, by rw [IntKind.wrap_u64]; omega⟩
theorem wr_ex {n : Int} {m : Nat} (q : Int) (h : n = m + 18446744073709551616 * q) (h1 : m < 18446744073709551616) : IntKind.u64.wrap n = m := by
  rw [h, IntKind.wrap_u64]; omega
theorem td_un {U q r : Nat} (h : U = q * 2684354560 + r) (hr : r < 2684354560) : (U : Int).tdiv 2684354560 = (q : Int) := by rw [Int.tdiv_eq_ediv_of_nonneg (by omega)]; omega
theorem dv_un {U q1 rh : Nat} (h1 : q1 = U / 2684354560) (h2 : rh = U % 2684354560) : U = q1 * 2684354560 + rh ∧ rh < 2684354560 := by omega
/-- The steps of the long division, each as the walk spells it. -/
theorem div10_facts {U T a q1 rh u2 q0 r0 Q R : Nat} (p1 : U = q1 * 2684354560 + rh) (p2 : rh < 2684354560) (hu2 : u2 = rh * 4294967296 + a) (p3 : u2 = q0 * 2684354560 + r0) (p4 : r0 < 2684354560) (p5 : a < 4294967296) (p7 : q1 < 4294967296) (p8 : u2 < 11529215046068469760) (p9 : q0 < 4294967296) (p11 : Q = q1 * 4294967296 + q0) (p12 : r0 = 268435456 * R) (p13 : Q < 18446744073709551616) :
    (U : Int).tdiv 2684354560 = (q1 : Int) ∧ IntKind.u64.wrap (q1 : Int) = (q1 : Int) ∧ IntKind.u64.wrap ((q1 : Int) * 2684354560) = (q1 : Int) * 2684354560 ∧
    IntKind.u64.wrap ((U : Int) - (q1 : Int) * 2684354560) = (rh : Int) ∧ decide ((4294967296 : Int) ≤ (q1 : Int)) = false ∧ IntKind.u64.wrap (4294967296 * (rh : Int)) = 4294967296 * (rh : Int) ∧
    IntKind.u64.wrap (4294967296 * (rh : Int) + (a : Int)) = (u2 : Int) ∧ decide ((u2 : Int) < 0) = false ∧
    (u2 : Int).tdiv 2684354560 = (q0 : Int) ∧ IntKind.u64.wrap (q0 : Int) = (q0 : Int) ∧ IntKind.u64.wrap ((q0 : Int) * 2684354560) = (q0 : Int) * 2684354560 ∧
    IntKind.u64.wrap ((u2 : Int) - (q0 : Int) * 2684354560) = (r0 : Int) ∧ decide ((4294967296 : Int) ≤ (q0 : Int)) = false ∧ IntKind.u64.wrap (4294967296 * (r0 : Int)) = 4294967296 * (r0 : Int) ∧
    decide (4294967296 * (r0 : Int) < 0) = false ∧ IntKind.u64.wrap ((q1 : Int) * 4294967296) = (q1 : Int) * 4294967296 ∧ IntKind.u64.wrap ((q1 : Int) * 4294967296 + (q0 : Int)) = (Q : Int) := by
  exact ⟨td_un p1 p2, wr_lt rfl (by omega), wr_u64 _ (by omega) (by omega), wr_lt (by omega) (by omega), decide_eq_false (by omega), wr_u64 _ (by omega) (by omega), wr_lt (by omega) (by omega), decide_eq_false (by omega),
    td_un p3 p4, wr_lt rfl (by omega), wr_u64 _ (by omega) (by omega), wr_lt (by omega) (by omega), decide_eq_false (by omega), wr_u64 _ (by omega) (by omega), decide_eq_false (by omega), wr_u64 _ (by omega) (by omega), wr_lt (by omega) (by omega)⟩
theorem div10_d {U a q1 rh u2 : Nat} (p1 : U = q1 * 2684354560 + rh) (hu2 : u2 = rh * 4294967296 + a) (p8 : u2 < 11529215046068469760) :
    IntKind.u64.wrap (IntKind.u64.wrap (IntKind.u64.wrap ((U : Int) * 4294967296) + (a : Int)) - IntKind.u64.wrap ((q1 : Int) * 11529215046068469760)) = (u2 : Int) := by
  obtain ⟨k1, e1⟩ := wr_mod ((U : Int) * 4294967296)
  rw [e1]
  obtain ⟨k2, e2⟩ := wr_mod ((U : Int) * 4294967296 - 18446744073709551616 * k1 + (a : Int))
  obtain ⟨k3, e3⟩ := wr_mod ((q1 : Int) * 11529215046068469760)
  rw [e2, e3]
  clear e1 e2 e3
  exact wr_ex (k3 - k1 - k2) (by omega) (by omega)
theorem div10_k {a q0 r0 u2 P : Nat} (p3 : u2 = q0 * 2684354560 + r0) (hP : P = r0 * 4294967296) (p4 : r0 < 2684354560) :
    IntKind.u64.wrap (IntKind.u64.wrap ((u2 : Int) * 4294967296) - IntKind.u64.wrap ((q0 : Int) * 11529215046068469760)) = (P : Int) := by
  obtain ⟨k1, e1⟩ := wr_mod ((u2 : Int) * 4294967296)
  obtain ⟨k3, e3⟩ := wr_mod ((q0 : Int) * 11529215046068469760)
  rw [e1, e3]
  clear e1 e3
  exact wr_ex (k3 - k1) (by omega) (by omega)
/-- The words behind k steps from the top. -/
def cellsQ (q x : Nat → Nat) (k : Nat) : Array Value := #[.int .u64 ((if 3 < k then q 3 else x 0 : Nat) : Int), .int .u64 ((if 2 < k then q 2 else x 1 : Nat) : Int), .int .u64 ((if 1 < k then q 1 else x 2 : Nat) : Int), .int .u64 ((if 0 < k then q 0 else x 3 : Nat) : Int)]
theorem cellsQ0 (q x : Nat → Nat) : cellsQ q x 0 = #[.int .u64 (x 0 : Nat), .int .u64 (x 1 : Nat), .int .u64 (x 2 : Nat), .int .u64 (x 3 : Nat)] := rfl
theorem cellsQ4 (q x : Nat → Nat) : cellsQ q x 4 = #[.int .u64 (q 3 : Nat), .int .u64 (q 2 : Nat), .int .u64 (q 1 : Nat), .int .u64 (q 0 : Nat)] := rfl
theorem wL_mod (v : Nat) : wL (v % wMod) = wL v := by
  unfold wL
  rw [xw_mod v 0 (by omega), xw_mod v 1 (by omega), xw_mod v 2 (by omega), xw_mod v 3 (by omega)]
end
section
theorem abs_any (m : Int) (h0 : -9223372036854775808 ≤ m) (h1 : m ≤ 9223372036854775807) (w : World) :
    Calls Tryz.prog 210 #[.int .i64 m] w fun e w' => e = .returned (.int .u64 (absN m : Nat)) ∧ w' = w := by
  by_cases hm : m < 0
  · have d : decide (m < 0) = true := decide_eq_true hm
    have e1 : IntKind.u64.wrap (-IntKind.u64.wrap m) = ((absN m : Nat) : Int) := by unfold absN; rw [IntKind.wrap_u64, IntKind.wrap_u64]; omega
    generalize absN m = A at *
    go_enter Tryz.func210, Tryz.ntmps210
    go_wp2_with fail
    go_ret
    exact ⟨rfl, rfl⟩
  · have d : decide (m < 0) = false := decide_eq_false hm
    have e1 : IntKind.u64.wrap m = ((absN m : Nat) : Int) := by unfold absN; rw [IntKind.wrap_u64]; omega
    generalize absN m = A at *
    go_enter Tryz.func210, Tryz.ntmps210
    go_wp2_with fail
    go_ret
    exact ⟨rfl, rfl⟩
theorem of_any (n : Nat) (w : World) :
    Calls Tryz.prog 209 #[.int .u64 (n : Int)] w fun e w' => e = .returned (.agg #[.int .u64 (n : Int), .int .u64 0, .int .u64 0, .int .u64 0]) ∧ Aw [] w w' := by
  go_enter Tryz.func209, Tryz.ntmps209
  go_wp2_with fail
  exact bodyPost_ret (v := .agg #[.int .u64 (n : Int), .int .u64 0, .int .u64 0, .int .u64 0]) (by simp [results, Tryz.results209, go_sem]) rfl ⟨rfl, (Aw.refl [] w).alloc _⟩
theorem wL_word (n : Nat) (h : n < 18446744073709551616) : #[.int .u64 (n : Int), .int .u64 0, .int .u64 0, .int .u64 0] = wL n := by
  have e0 : xw n 0 = n := by unfold xw; rw [Nat.pow_zero, Nat.div_one]; exact Nat.mod_eq_of_lt h
  have e1 : ∀ k, 1 ≤ k → xw n k = 0 := fun k hk => by
    unfold xw
    rw [Nat.div_eq_of_lt]
    exact Nat.lt_of_lt_of_le h (Nat.le_self_pow (by omega) _)
  unfold wL
  rw [e0, e1 1 (by omega), e1 2 (by omega), e1 3 (by omega)]
  rfl
theorem of_wide (n : Nat) (h : n < 18446744073709551616) (w : World) :
    Calls Tryz.prog 209 #[.int .u64 (n : Int)] w fun e w' => e = .returned (.agg (wL n)) ∧ Aw [] w w' := by
  have k := of_any n w
  rw [wL_word n h] at k
  exact k
set_option maxRecDepth 100000 in
set_option maxHeartbeats 1600000 in
theorem dgood_any (M S : Int) (h0 : -9223372036854775808 ≤ M) (h1 : M ≤ 9223372036854775807) (w : World) :
    Calls Tryz.prog 208 #[.agg #[.int .i64 M, .int .i64 S]] w fun e w' => e = .returned (.bool (goodD M S)) ∧ Aw [] w w' := by
  have HD : Hid (goodD M S = (decide (0 ≤ S) && (decide (S ≤ 18) && (!(M == -9223372036854775808) && (S == 0 || !(M.tmod 10 == 0)))))) := Lib.hid rfl
  have e1 : IntKind.i64.wrap (M.tmod 10) = M.tmod 10 := IntWalk.i64_in _ (by have := Int.tmod_lt_of_pos M (show (0 : Int) < 10 by decide); have := Int.lt_tmod_of_pos M (show (0 : Int) < 10 by decide); omega)
  have s3 : (M != -9223372036854775808) = !(M == -9223372036854775808) := rfl
  have s5 : (M.tmod 10 != 0) = !(M.tmod 10 == 0) := rfl
  generalize goodD M S = R at *
  generalize hb1 : decide (0 ≤ S) = b1 at *
  generalize hb2 : decide (S ≤ 18) = b2 at *
  generalize hb3 : (M == -9223372036854775808) = b3 at *
  generalize hb4 : (S == 0) = b4 at *
  generalize hb5 : (M.tmod 10 == 0) = b5 at *
  have hA := (Aw.refl [] w).alloc (.cells #[.int .i64 M, .int .i64 S] 68)
  cases b1 <;> cases b2 <;> cases b3 <;> cases b4 <;> cases b5
  all_goals
    go_enter Tryz.func208, Tryz.ntmps208
    go_wp2_with fail
    go_ret
    exact ⟨ret_bool (by rw [HD.out]; rfl), hA⟩
end
section
/-- What a decimal and a bool are told as. -/
def DecE (R : (Int × Nat) × Bool) (e : Ending) : Prop := e = .returned (.tuple #[.agg #[.int .i64 R.1.1, .int .i64 (R.1.2 : Int)], .bool R.2])
theorem eqWide (a0 a1 a2 a3 b0 b1 b2 b3 : Int) (w : World) : (binOp .eql 232 (.agg #[.int .u64 a0, .int .u64 a1, .int .u64 a2, .int .u64 a3]) (.agg #[.int .u64 b0, .int .u64 b1, .int .u64 b2, .int .u64 b3])).run Tryz.prog w = .ok (.bool (a0 == b0 && (a1 == b1 && (a2 == b2 && a3 == b3)))) w := by
  have hu : Tryz.prog.underlying 232 = some (.array 4 194) := by kernel_rfl
  have hc : Tryz.prog.cellsOf 194 = 1 := by kernel_rfl
  have h8 : Tryz.prog.underlying 194 = some (.int .u64) := by kernel_rfl
  obtain ⟨i, hi⟩ : ∃ i, Tryz.prog.info? 194 = some i := Option.isSome_iff_exists.1 (by kernel_rfl)
  have he : Tryz.prog.plainKey 194 = true := by kernel_rfl
  have hp : ∀ (xs : Array Value) (k : Nat) (v : Value), xs[k]? = some v → (part 194 xs k).run Tryz.prog w = .ok v w := fun xs k v h => run_part_plain w he h
  have hq : ∀ a b : Int, (Op.equalIn 9999 194 (.int .u64 a) (.int .u64 b)).run Tryz.prog w = .ok (a == b) w := fun a b => run_equalIn_int (d := 9998) (w := w) 194 .u64 .u64 a b h8
  have hr : List.range 4 = [0, 1, 2, 3] := by decide
  have h : (Op.equalIn 10000 232 (.agg #[.int .u64 a0, .int .u64 a1, .int .u64 a2, .int .u64 a3]) (.agg #[.int .u64 b0, .int .u64 b1, .int .u64 b2, .int .u64 b3])).run Tryz.prog w = .ok (a0 == b0 && (a1 == b1 && (a2 == b2 && a3 == b3))) w := by
    rw [run_equalIn_array w 9999 _ _ hu hi, hc, hr]
    simp only [Op.eqItems, Sem.run_bind, Nat.mul_one]
    rw [hp _ 0 (.int .u64 a0) rfl, Result.andThen_ok, hp _ 0 (.int .u64 b0) rfl, Result.andThen_ok, hq, Result.andThen_ok]
    cases (a0 == b0) <;> simp [Sem.run_bind]
    rw [hp _ 1 (.int .u64 a1) rfl, Result.andThen_ok, hp _ 1 (.int .u64 b1) rfl, Result.andThen_ok, hq, Result.andThen_ok]
    cases (a1 == b1) <;> simp [Sem.run_bind]
    rw [hp _ 2 (.int .u64 a2) rfl, Result.andThen_ok, hp _ 2 (.int .u64 b2) rfl, Result.andThen_ok, hq, Result.andThen_ok]
    cases (a2 == b2) <;> simp [Sem.run_bind]
    rw [hp _ 3 (.int .u64 a3) rfl, Result.andThen_ok, hp _ 3 (.int .u64 b3) rfl, Result.andThen_ok, hq, Result.andThen_ok]
    cases (a3 == b3) <;> simp [Sem.run_bind]
  simp [go_sem, h]
theorem nat_beq0 (a : Nat) : ((a : Int) == 0) = (a == 0) := by
  apply bcl; rw [beq_iff_eq, beq_iff_eq]; omega
theorem four_zero (u : Nat) (h : u < 18446744073709551616 ^ 4) : (u % 18446744073709551616 = 0 ∧ u / 18446744073709551616 % 18446744073709551616 = 0 ∧ u / 18446744073709551616 / 18446744073709551616 % 18446744073709551616 = 0 ∧ u / 18446744073709551616 / 18446744073709551616 / 18446744073709551616 % 18446744073709551616 = 0) ↔ u = 0 := by
  have e4 : (18446744073709551616 : Nat) ^ 4 = 18446744073709551616 * 18446744073709551616 * 18446744073709551616 * 18446744073709551616 := by rfl
  rw [e4] at h
  obtain ⟨a, ha⟩ : ∃ a, a = u / 18446744073709551616 := ⟨_, rfl⟩
  obtain ⟨b, hb⟩ : ∃ b, b = a / 18446744073709551616 := ⟨_, rfl⟩
  obtain ⟨c, hc⟩ : ∃ c, c = b / 18446744073709551616 := ⟨_, rfl⟩
  rw [← ha, ← hb, ← hc]
  constructor
  · rintro ⟨h0, h1, h2, h3⟩
    have hc0 : c < 18446744073709551616 := by omega
    have hc1 : c = 0 := by omega
    have hb1 : b = 0 := by omega
    have ha1 : a = 0 := by omega
    omega
  · rintro rfl
    have ha1 : a = 0 := by omega
    have hb1 : b = 0 := by omega
    have hc1 : c = 0 := by omega
    omega
theorem xw_zero (v : Nat) : ((xw v 0 : Int) == 0 && ((xw v 1 : Int) == 0 && ((xw v 2 : Int) == 0 && (xw v 3 : Int) == 0))) = (v % wMod == 0) := by
  rw [nat_beq0, nat_beq0, nat_beq0, nat_beq0, ← xw_mod v 0 (by omega), ← xw_mod v 1 (by omega), ← xw_mod v 2 (by omega), ← xw_mod v 3 (by omega)]
  have hlt : v % wMod < 18446744073709551616 ^ 4 := Nat.mod_lt _ (Nat.pow_pos (by decide))
  generalize v % wMod = u at *
  have h := four_zero u hlt
  have x0 : xw u 0 = u % 18446744073709551616 := by unfold xw; rw [Nat.pow_zero, Nat.div_one]
  have x1 : xw u 1 = u / 18446744073709551616 % 18446744073709551616 := by unfold xw; rw [Nat.pow_one]
  have x2 : xw u 2 = u / 18446744073709551616 / 18446744073709551616 % 18446744073709551616 := by unfold xw; rw [Nat.div_div_eq_div_mul, Nat.pow_two]
  have x3 : xw u 3 = u / 18446744073709551616 / 18446744073709551616 / 18446744073709551616 % 18446744073709551616 := by unfold xw; rw [Nat.div_div_eq_div_mul, Nat.div_div_eq_div_mul, Nat.pow_succ, Nat.pow_two]
  rw [← x0, ← x1, ← x2, ← x3] at h
  apply bcl
  simp only [Bool.and_eq_true, beq_iff_eq]
  exact h
/-- The words of a number that stands in a block. -/
def Nm (w : World) (n : Nat) (neg : Bool) (u t : Nat) : Prop := Blk w n 234 #[.bool neg, .int .u64 (xw u 0 : Nat), .int .u64 (xw u 1 : Nat), .int .u64 (xw u 2 : Nat), .int .u64 (xw u 3 : Nat), .int .i64 (t : Int)]
theorem Nm.facts {w : World} {n : Nat} {neg : Bool} {u t : Nat} (h : Nm w n neg u t) : (w.cell? ⟨n, 0, none⟩ = some (.bool neg) ∧ w.cell? ⟨n, 1, none⟩ = some (.int .u64 (xw u 0 : Nat)) ∧ w.cell? ⟨n, 2, none⟩ = some (.int .u64 (xw u 1 : Nat)) ∧ w.cell? ⟨n, 3, none⟩ = some (.int .u64 (xw u 2 : Nat)) ∧ w.cell? ⟨n, 4, none⟩ = some (.int .u64 (xw u 3 : Nat)) ∧ w.cell? ⟨n, 5, none⟩ = some (.int .i64 (t : Int))) ∧
    w.frozen? ⟨n, 1, none⟩ = false ∧ w.frozen? ⟨n, 2, none⟩ = false ∧ w.frozen? ⟨n, 3, none⟩ = false ∧ w.frozen? ⟨n, 4, none⟩ = false ∧ w.frozen? ⟨n, 5, none⟩ = false :=
  ⟨⟨(Blk.cell h 0).trans rfl, (Blk.cell h 1).trans rfl, (Blk.cell h 2).trans rfl, (Blk.cell h 3).trans rfl, (Blk.cell h 4).trans rfl, (Blk.cell h 5).trans rfl⟩, Blk.frozen h 1, Blk.frozen h 2, Blk.frozen h 3, Blk.frozen h 4, Blk.frozen h 5⟩
/-- Where the number and the result lie. -/
structure NR (w0 w : World) (neg : Bool) (u t : Nat) : Prop where
  nm : Nm w w0.heap.size neg u t
  rs : Blk w (w0.heap.size + 1) 68 #[.int .i64 0, .int .i64 0]
  aw : Aw [] w0 w
theorem NR.call {w0 w w' : World} {neg : Bool} {u t : Nat} (h : NR w0 w neg u t) (k : Aw [] w w') : NR w0 w' neg u t := ⟨Blk.aw h.nm k (by simp), Blk.aw h.rs k (by simp), h.aw.trans k⟩
theorem NR.drewN {w0 w : World} {neg : Bool} {u t : Nat} (h : NR w0 w neg u t) (n : Nat) : NR w0 (w.drewN n) neg u t := ⟨Blk.drewN h.nm n, Blk.drewN h.rs n, h.aw.drewN n⟩
theorem NR.drew {w0 w : World} {neg : Bool} {u t : Nat} (h : NR w0 w neg u t) : NR w0 w.drew neg u t := ⟨Blk.drew h.nm, Blk.drew h.rs, h.aw.drew⟩
theorem NR.fs {w0 w : World} {neg : Bool} {u t : Nat} (h : NR w0 w neg u t) : (w.cell? ⟨w0.heap.size, 1, none⟩ = some (.int .u64 (xw u 0 : Nat)) ∧ w.cell? ⟨w0.heap.size, 2, none⟩ = some (.int .u64 (xw u 1 : Nat)) ∧ w.cell? ⟨w0.heap.size, 3, none⟩ = some (.int .u64 (xw u 2 : Nat)) ∧ w.cell? ⟨w0.heap.size, 4, none⟩ = some (.int .u64 (xw u 3 : Nat)) ∧ w.cell? ⟨w0.heap.size, 5, none⟩ = some (.int .i64 (t : Int))) ∧ NR w0 w neg u t :=
  ⟨h.nm.facts.1.2, h⟩
theorem NR.rsf {w0 w : World} {neg : Bool} {u t : Nat} (h : NR w0 w neg u t) : (w.cell? ⟨w0.heap.size + 1, 0, none⟩ = some (.int .i64 0) ∧ w.cell? ⟨w0.heap.size + 1, 1, none⟩ = some (.int .i64 0)) ∧ w.frozen? ⟨w0.heap.size + 1, 0, none⟩ = false ∧ w.frozen? ⟨w0.heap.size + 1, 1, none⟩ = false :=
  ⟨⟨(Blk.cell h.rs 0).trans rfl, (Blk.cell h.rs 1).trans rfl⟩, Blk.frozen h.rs 0, Blk.frozen h.rs 1⟩
theorem big_lt : 9223372036854775807 < wMod := by
  unfold wMod
  have : (18446744073709551616 : Nat) ^ 1 ≤ 18446744073709551616 ^ 4 := Nat.pow_le_pow_right (by decide) (by decide)
  rw [Nat.pow_one] at this
  omega
theorem NR.alloc {w0 w : World} {neg : Bool} {u t : Nat} (h : NR w0 w neg u t) (o : Obj) : NR w0 (w.alloc o) neg u t := ⟨Blk.alloc h.nm o, Blk.alloc h.rs o, h.aw.alloc o⟩
theorem NR.mod {w0 w : World} {neg : Bool} {v t : Nat} (h : NR w0 w neg v t) : NR w0 w neg (v % wMod) t := by
  refine ⟨?_, h.rs, h.aw⟩
  have k := h.nm
  unfold Nm at k ⊢
  rw [xw_mod v 0 (by omega), xw_mod v 1 (by omega), xw_mod v 2 (by omega), xw_mod v 3 (by omega)]
  exact k
theorem NR.put {w0 w : World} {neg : Bool} {u t : Nat} (h : NR w0 w neg u t) (u' t' : Nat) : NR w0 (((((w.setCell ⟨w0.heap.size, 1, none⟩ (.int .u64 (xw u' 0 : Nat))).setCell ⟨w0.heap.size, 2, none⟩ (.int .u64 (xw u' 1 : Nat))).setCell ⟨w0.heap.size, 3, none⟩ (.int .u64 (xw u' 2 : Nat))).setCell ⟨w0.heap.size, 4, none⟩ (.int .u64 (xw u' 3 : Nat))).setCell ⟨w0.heap.size, 5, none⟩ (.int .i64 (t' : Int))) neg u' t' :=
  ⟨((((h.nm.set_ 1 (.int .u64 (xw u' 0 : Nat))).set_ 2 (.int .u64 (xw u' 1 : Nat))).set_ 3 (.int .u64 (xw u' 2 : Nat))).set_ 4 (.int .u64 (xw u' 3 : Nat))).set_ 5 (.int .i64 (t' : Int)),
    ((((h.rs.far (by simp) _).far (by simp) _).far (by simp) _).far (by simp) _).far (by simp) _,
    ((((h.aw.setCell (.inr (Nat.le_refl _)) _).setCell (.inr (Nat.le_refl _)) _).setCell (.inr (Nat.le_refl _)) _).setCell (.inr (Nat.le_refl _)) _).setCell (.inr (Nat.le_refl _)) _⟩
theorem xw_word (u : Nat) (h : u < 18446744073709551616) : xw u 0 = u := by
  unfold xw; rw [Nat.pow_zero, Nat.div_one]; exact Nat.mod_eq_of_lt h
theorem strip_stop {u t : Nat} (h : ¬ u % 10 = 0) : stripN u (t + 1) = (u, t + 1) := by rw [stripN, if_neg h]
theorem strip_go {u t : Nat} (h : u % 10 = 0) : stripN u (t + 1) = stripN (u / 10) t := by rw [stripN, if_pos h]
theorem NR.start (w : World) (neg : Bool) (v s : Nat) : NR w ((w.alloc (.cells #[.bool neg, .int .u64 (xw v 0 : Nat), .int .u64 (xw v 1 : Nat), .int .u64 (xw v 2 : Nat), .int .u64 (xw v 3 : Nat), .int .i64 (s : Int)] 234)).alloc (.cells #[.int .i64 0, .int .i64 0] 68)) neg v s :=
  ⟨Blk.alloc (Blk.new w _ _) _, by
    have := Blk.new (w.alloc (.cells #[.bool neg, .int .u64 (xw v 0 : Nat), .int .u64 (xw v 1 : Nat), .int .u64 (xw v 2 : Nat), .int .u64 (xw v 3 : Nat), .int .i64 (s : Int)] 234)) 68 #[.int .i64 0, .int .i64 0]
    simpa using this, ((Aw.refl _ _).alloc _).alloc _⟩
def tOf (w : World) (n : Nat) : Nat := match w.cell? ⟨n, 5, none⟩ with | some (.int _ t) => t.toNat | _ => 0
theorem NR.tOf {w0 w : World} {neg : Bool} {u t : Nat} (h : NR w0 w neg u t) : tOf w w0.heap.size = t := by
  unfold Proofs.YtoplengednoldaaGreatDoor.tOf; rw [h.nm.facts.1.2.2.2.2.2]; simp
end
section
theorem count_bd (M S : Int) : (countD M S).2 ≤ 18 ∧ ((countD M S).1 = 0 ∨ (countD M S).1 = M) ∧ goodD (countD M S).1 (countD M S).2 = true ∧ (goodD M S = true → ((countD M S).2 : Int) = S) := by
  unfold countD
  cases h : goodD M S
  · simp [goodD]
  · simp only [if_true]
    have h2 := h
    unfold goodD at h2
    simp only [Bool.and_eq_true, decide_eq_true_eq] at h2
    have e : ((S.toNat : Nat) : Int) = S := by omega
    exact ⟨by omega, .inr trivial, by rw [e]; exact h, fun _ => e⟩
set_option maxHeartbeats 1600000 in
theorem counted_any (M S : Int) (h0 : -9223372036854775808 ≤ M) (h1 : M ≤ 9223372036854775807) (w : World) :
    Calls Tryz.prog 169 #[.agg #[.int .i64 M, .int .i64 S]] w fun e w' => e = .returned (.agg #[.int .i64 (countD M S).1, .int .i64 ((countD M S).2 : Nat)]) ∧ Aw [] w w' := by
  have kG := fun W => dgood_any M S h0 h1 W
  have hc := count_bd M S
  have hB0 := Blk.new w 68 #[.int .i64 M, .int .i64 S]
  have hB0' := Blk.alloc hB0 (.cells #[.int .i64 0, .int .i64 0] 68)
  have hB1 := Blk.new (w.alloc (.cells #[.int .i64 M, .int .i64 S] 68)) 68 #[.int .i64 0, .int .i64 0]
  have hz : (w.alloc (.cells #[.int .i64 M, .int .i64 S] 68)).heap.size = w.heap.size + 1 := by simp
  rw [hz] at hB1
  have hA0 := ((Aw.refl [] w).alloc (.cells #[.int .i64 M, .int .i64 S] 68)).alloc (.cells #[.int .i64 0, .int .i64 0] 68)
  cases hg : goodD M S
  · have e : countD M S = (0, 0) := by unfold countD; rw [hg]; rfl
    rw [e]
    rw [hg] at kG
    clear hc hg e
    go_enter Tryz.func169, Tryz.ntmps169
    go_wp2_with (go_at_call 208; (with_reducible refine (kG _).mono ?_); rintro e w1 ⟨rfl, hA1⟩; have c1 := Blk.aw hB1 hA1 (by simp); have d0 := (Blk.cell c1 0).trans rfl; have d1 := (Blk.cell c1 1).trans rfl; have f0 := Blk.frozen c1 0; have f1 := Blk.frozen c1 1)
    exact bodyPost_ret (v := .agg #[.int .i64 0, .int .i64 0]) (by simp [results, Tryz.results169, go_sem, d0, d1]) rfl ⟨rfl, ((hA0.trans hA1).setCell (.inr (Nat.le_succ _)) _).setCell (.inr (Nat.le_succ _)) _⟩
  · have e1 : (countD M S).1 = M := by unfold countD; rw [hg]; rfl
    rw [e1, hc.2.2.2 hg]
    rw [hg] at kG
    clear hc hg e1
    go_enter Tryz.func169, Tryz.ntmps169
    go_wp2_with (go_at_call 208; (with_reducible refine (kG _).mono ?_); rintro e w1 ⟨rfl, hA1⟩; have b1 := Blk.aw hB0' hA1 (by simp); have g0 := (Blk.cell b1 0).trans rfl; have g1 := (Blk.cell b1 1).trans rfl; have c1 := Blk.aw hB1 hA1 (by simp); have d0 := (Blk.cell c1 0).trans rfl; have d1 := (Blk.cell c1 1).trans rfl; have f0 := Blk.frozen c1 0; have f1 := Blk.frozen c1 1)
    exact bodyPost_ret (v := .agg #[.int .i64 M, .int .i64 S]) (by simp [results, Tryz.results169, go_sem, d0, d1]) rfl ⟨rfl, ((hA0.trans hA1).setCell (.inr (Nat.le_succ _)) _).setCell (.inr (Nat.le_succ _)) _⟩
/-- A decimal in a block of the call's own, all else as it was. -/
structure N2 (w0 w : World) (M S : Int) : Prop where
  d : Blk w w0.heap.size 68 #[.int .i64 M, .int .i64 S]
  aw : Aw [] w0 w
section
variable {w0 w w' : World} {M S : Int}
theorem N2.call (h : N2 w0 w M S) (k : Aw [] w w') : N2 w0 w' M S := ⟨Blk.aw h.d k (by simp), h.aw.trans k⟩
theorem N2.drew (h : N2 w0 w M S) : N2 w0 w.drew M S := ⟨Blk.drew h.d, h.aw.drew⟩
theorem N2.far (h : N2 w0 w M S) (p : Addr) (hp : w0.heap.size < p.block) (u : Value) : N2 w0 (w.setCell p u) M S := ⟨Blk.far h.d (by omega) u, h.aw.setCell (.inr (by omega)) u⟩
theorem N2.fs (h : N2 w0 w M S) : (w.cell? ⟨w0.heap.size, 0, none⟩ = some (.int .i64 M) ∧ w.cell? ⟨w0.heap.size, 1, none⟩ = some (.int .i64 S)) ∧ N2 w0 w M S :=
  ⟨⟨(Blk.cell h.d 0).trans rfl, (Blk.cell h.d 1).trans rfl⟩, h⟩
end
set_option maxHeartbeats 3200000 in
theorem numberOf_any (M : Int) (S s : Nat) (h0 : -9223372036854775808 ≤ M) (h1 : M ≤ 9223372036854775807) (hS : S ≤ s) (hs : s ≤ 18) (w : World) :
    Calls Tryz.prog 170 #[.agg #[.int .i64 M, .int .i64 (S : Int)], .int .i64 (s : Int)] w fun e w' => e = .returned (.agg #[.bool (decide (M < 0)), .int .u64 (xw (numW (M, S) s) 0 : Nat), .int .u64 (xw (numW (M, S) s) 1 : Nat), .int .u64 (xw (numW (M, S) s) 2 : Nat), .int .u64 (xw (numW (M, S) s) 3 : Nat), .int .i64 (s : Int)]) ∧ Aw [] w w' := by
  have hA : absN M < 18446744073709551616 := by unfold absN; omega
  have kA := fun W => abs_any M h0 h1 W
  have kO := fun W => of_wide (absN M) hA W
  have kP := fun W => power_wide (absN M) 10 (s - S) W (by decide) (by omega)
  have e10 : ((10 : Nat) : Int) = 10 := rfl
  simp only [e10] at kP
  clear e10
  have e1 : absN M * 10 ^ (s - S) = numW (M, S) s := rfl
  rw [e1] at kP
  have e2 : IntKind.i64.wrap ((s - S : Nat) : Int) = ((s - S : Nat) : Int) := IntWalk.i64_in _ (by omega)
  have e3 : (s : Int) - (S : Int) = ((s - S : Nat) : Int) := by omega
  unfold wL at kO kP
  clear hA e1
  generalize numW (M, S) s = v at *
  generalize absN M = m at *
  generalize s - S = k at *
  have hN : N2 w ((w.alloc (.cells #[.int .i64 M, .int .i64 (S : Int)] 68)).alloc (.cells #[.bool false, .int .u64 0, .int .u64 0, .int .u64 0, .int .u64 0, .int .i64 0] 234)) M (S : Int) := ⟨Blk.alloc (Blk.new w _ _) _, ((Aw.refl _ _).alloc _).alloc _⟩
  have hR := Blk.new (w.alloc (.cells #[.int .i64 M, .int .i64 (S : Int)] 68)) 234 #[.bool false, .int .u64 0, .int .u64 0, .int .u64 0, .int .u64 0, .int .i64 0]
  have hz : (w.alloc (.cells #[.int .i64 M, .int .i64 (S : Int)] 68)).heap.size = w.heap.size + 1 := by simp
  rw [hz] at hR
  clear hz
  go_enter Tryz.func170, Tryz.ntmps170
  go_wp2_with fail
  generalize (w.alloc (.cells #[.int .i64 M, .int .i64 (S : Int)] 68)).alloc (.cells #[.bool false, .int .u64 0, .int .u64 0, .int .u64 0, .int .u64 0, .int .i64 0] 234) = W0 at *
  go_region_held3 (fun w' => (w'.cell? ⟨w.heap.size, 0, none⟩ = some (.int .i64 M) ∧ w'.cell? ⟨w.heap.size, 1, none⟩ = some (.int .i64 (S : Int))) ∧ N2 w w' M (S : Int)) (first | (with_reducible assumption) | (with_reducible exact hN.drew.fs) | (refine N2.fs ?_; repeat (first | (with_reducible assumption) | (with_reducible refine N2.far ?_ _ (by simp) _)))) (first
    | (go_at_call 210; (with_reducible refine (kA _).mono ?_); rintro e w1 ⟨rfl, hw1⟩; rw [hw1]; clear hw1 w1)
    | (go_at_call 209; (with_reducible refine (kO _).mono ?_); rintro e w2 ⟨rfl, hA2⟩; have hN2 := (hN.drew.call hA2); have S2 := hN2.fs)
    | (go_at_call 211; (with_reducible refine (kP _).mono ?_); rintro e w3 ⟨rfl, hA3⟩; have hN3 := (hN2.call hA3); have S3 := hN3.fs; have hR3 := Blk.aw (Blk.aw hR.drew hA2 (by simp)) hA3 (by simp); have c0 := (Blk.cell hR3 0).trans rfl; have c1 := (Blk.cell hR3 1).trans rfl; have c2 := (Blk.cell hR3 2).trans rfl; have c3 := (Blk.cell hR3 3).trans rfl; have c4 := (Blk.cell hR3 4).trans rfl; have c5 := (Blk.cell hR3 5).trans rfl; have f0 := Blk.frozen hR3 0; have f1 := Blk.frozen hR3 1; have f2 := Blk.frozen hR3 2; have f3 := Blk.frozen hR3 3; have f4 := Blk.frozen hR3 4; have f5 := Blk.frozen hR3 5))
  rename_i hHeld
  obtain ⟨_, hL⟩ := hHeld
  go_wp2_with fail
  refine bodyPost_ret (v := .agg #[.bool (decide (M < 0)), .int .u64 (xw v 0 : Nat), .int .u64 (xw v 1 : Nat), .int .u64 (xw v 2 : Nat), .int .u64 (xw v 3 : Nat), .int .i64 (s : Int)]) (by simp [results, Tryz.results170, go_sem, c0, c1, c2, c3, c4, c5]) rfl ⟨rfl, hL.aw⟩
set_option maxRecDepth 100000 in
set_option maxHeartbeats 3200000 in
theorem ncompare_any (n1 n2 : Bool) (v u s1 s2 : Nat) (w : World) :
    Calls Tryz.prog 171 #[.agg #[.bool n1, .int .u64 (xw v 0 : Nat), .int .u64 (xw v 1 : Nat), .int .u64 (xw v 2 : Nat), .int .u64 (xw v 3 : Nat), .int .i64 (s1 : Int)], .agg #[.bool n2, .int .u64 (xw u 0 : Nat), .int .u64 (xw u 1 : Nat), .int .u64 (xw u 2 : Nat), .int .u64 (xw u 3 : Nat), .int .i64 (s2 : Int)]] w fun e w' => e = .returned (.int .i64 (cmpNum n1 v n2 u)) ∧ Aw [] w w' := by
  have kC := fun W => compare_wide v u W
  have kD := fun W => compare_wide u v W
  unfold wL at kC kD
  have hA0 := ((Aw.refl [] w).alloc (.cells #[.bool n1, .int .u64 (xw v 0 : Nat), .int .u64 (xw v 1 : Nat), .int .u64 (xw v 2 : Nat), .int .u64 (xw v 3 : Nat), .int .i64 (s1 : Int)] 234)).alloc (.cells #[.bool n2, .int .u64 (xw u 0 : Nat), .int .u64 (xw u 1 : Nat), .int .u64 (xw u 2 : Nat), .int .u64 (xw u 3 : Nat), .int .i64 (s2 : Int)] 234)
  have HR : Hid (cmpNum n1 v n2 u = if n1 && n2 then cmpZ (u % wMod) (v % wMod) else if n1 then -1 else if n2 then 1 else cmpZ (v % wMod) (u % wMod)) := Lib.hid rfl
  generalize cmpNum n1 v n2 u = R at *
  generalize cmpZ (v % wMod) (u % wMod) = c1 at *
  generalize cmpZ (u % wMod) (v % wMod) = c2 at *
  cases n1 <;> cases n2
  all_goals
    go_enter Tryz.func171, Tryz.ntmps171
    go_wp2_with (first
      | (go_at_call 212; (with_reducible refine (kC _).mono ?_); rintro e w1 ⟨rfl, hA1⟩)
      | (go_at_call 212; (with_reducible refine (kD _).mono ?_); rintro e w1 ⟨rfl, hA1⟩))
    go_ret
    have hR := HR.out
    subst hR
    first
      | exact ⟨rfl, hA0.trans hA1⟩
      | exact ⟨rfl, hA0⟩
end
section
/-- Two decimals in blocks of the call's own. -/
structure N4 (w0 w : World) (M S N T : Int) : Prop where
  d : Blk w w0.heap.size 68 #[.int .i64 M, .int .i64 S]
  e : Blk w (w0.heap.size + 1) 68 #[.int .i64 N, .int .i64 T]
  aw : Aw [] w0 w
section
variable {w0 w w' : World} {M S N T : Int}
theorem N4.call (h : N4 w0 w M S N T) (k : Aw [] w w') : N4 w0 w' M S N T := ⟨Blk.aw h.d k (by simp), Blk.aw h.e k (by simp), h.aw.trans k⟩
theorem N4.drew (h : N4 w0 w M S N T) : N4 w0 w.drew M S N T := ⟨Blk.drew h.d, Blk.drew h.e, h.aw.drew⟩
theorem N4.drewN (h : N4 w0 w M S N T) (n : Nat) : N4 w0 (w.drewN n) M S N T := ⟨Blk.drewN h.d n, Blk.drewN h.e n, h.aw.drewN n⟩
theorem N4.alloc (h : N4 w0 w M S N T) (o : Obj) : N4 w0 (w.alloc o) M S N T := ⟨Blk.alloc h.d o, Blk.alloc h.e o, h.aw.alloc o⟩
theorem N4.far (h : N4 w0 w M S N T) (p : Addr) (hp : w0.heap.size + 1 < p.block) (u : Value) : N4 w0 (w.setCell p u) M S N T := ⟨Blk.far h.d (by omega) u, Blk.far h.e (by omega) u, h.aw.setCell (.inr (by omega)) u⟩
theorem N4.put1 (h : N4 w0 w M S N T) (M' S' : Int) : N4 w0 ((w.setCell ⟨w0.heap.size, 0, none⟩ (.int .i64 M')).setCell ⟨w0.heap.size, 1, none⟩ (.int .i64 S')) M' S' N T :=
  ⟨(Blk.set_ h.d 0 (.int .i64 M')).set_ 1 (.int .i64 S'), (Blk.far h.e (by simp) _).far (by simp) _, (h.aw.setCell (.inr (Nat.le_refl _)) _).setCell (.inr (Nat.le_refl _)) _⟩
theorem N4.put2 (h : N4 w0 w M S N T) (M' S' : Int) : N4 w0 ((w.setCell ⟨w0.heap.size + 1, 0, none⟩ (.int .i64 M')).setCell ⟨w0.heap.size + 1, 1, none⟩ (.int .i64 S')) M S M' S' :=
  ⟨(Blk.far h.d (by simp) _).far (by simp) _, (Blk.set_ h.e 0 (.int .i64 M')).set_ 1 (.int .i64 S'), (h.aw.setCell (.inr (Nat.le_succ _)) _).setCell (.inr (Nat.le_succ _)) _⟩
theorem N4.fs (h : N4 w0 w M S N T) : (w.cell? ⟨w0.heap.size, 0, none⟩ = some (.int .i64 M) ∧ w.cell? ⟨w0.heap.size, 1, none⟩ = some (.int .i64 S) ∧ w.cell? ⟨w0.heap.size + 1, 0, none⟩ = some (.int .i64 N) ∧ w.cell? ⟨w0.heap.size + 1, 1, none⟩ = some (.int .i64 T)) ∧ N4 w0 w M S N T :=
  ⟨⟨(Blk.cell h.d 0).trans rfl, (Blk.cell h.d 1).trans rfl, (Blk.cell h.e 0).trans rfl, (Blk.cell h.e 1).trans rfl⟩, h⟩
theorem N4.fz (h : N4 w0 w M S N T) : w.frozen? ⟨w0.heap.size, 0, none⟩ = false ∧ w.frozen? ⟨w0.heap.size, 1, none⟩ = false ∧ w.frozen? ⟨w0.heap.size + 1, 0, none⟩ = false ∧ w.frozen? ⟨w0.heap.size + 1, 1, none⟩ = false :=
  ⟨Blk.frozen h.d 0, Blk.frozen h.d 1, Blk.frozen h.e 0, Blk.frozen h.e 1⟩
theorem N4.start (w : World) (M S N T : Int) : N4 w ((w.alloc (.cells #[.int .i64 M, .int .i64 S] 68)).alloc (.cells #[.int .i64 N, .int .i64 T] 68)) M S N T :=
  ⟨Blk.alloc (Blk.new w _ _) _, by
    have := Blk.new (w.alloc (.cells #[.int .i64 M, .int .i64 S] 68)) 68 #[.int .i64 N, .int .i64 T]
    simpa using this, ((Aw.refl _ _).alloc _).alloc _⟩
end
set_option maxRecDepth 100000 in
set_option maxHeartbeats 6400000 in
theorem scompare_any (M S N T : Int) (h0 : -9223372036854775808 ≤ M) (h1 : M ≤ 9223372036854775807) (h2 : -9223372036854775808 ≤ N) (h3 : N ≤ 9223372036854775807) (w : World) :
    Calls Tryz.prog 108 #[.agg #[.int .i64 M, .int .i64 S], .agg #[.int .i64 N, .int .i64 T]] w fun e w' => e = .returned (.int .i64 (cmpD M S N T)) ∧ Aw [] w w' := by
  have k1 := fun W => counted_any M S h0 h1 W
  have k2 := fun W => counted_any N T h2 h3 W
  obtain ⟨b1, b2, _, _⟩ := count_bd M S
  obtain ⟨b3, b4, _, _⟩ := count_bd N T
  have HR : Hid (cmpD M S N T = cmpNum (decide ((countD M S).1 < 0)) (numW (countD M S) (max (countD M S).2 (countD N T).2)) (decide ((countD N T).1 < 0)) (numW (countD N T) (max (countD M S).2 (countD N T).2))) := Lib.hid rfl
  generalize cmpD M S N T = R at *
  generalize countD M S = a at *
  generalize countD N T = b at *
  obtain ⟨A, p⟩ := a
  obtain ⟨B, q⟩ := b
  simp only at b1 b2 b3 b4 k1 k2 HR
  obtain ⟨m, hm⟩ : ∃ m, max p q = m := ⟨_, rfl⟩
  have hpm : p ≤ m := by omega
  have hqm : q ≤ m := by omega
  have hm18 : m ≤ 18 := by omega
  have emax : max (p : Int) (q : Int) = (m : Int) := by omega
  have k3 := fun W => numberOf_any A p m (by rcases b2 with h | h <;> omega) (by rcases b2 with h | h <;> omega) hpm hm18 W
  have k4 := fun W => numberOf_any B q m (by rcases b4 with h | h <;> omega) (by rcases b4 with h | h <;> omega) hqm hm18 W
  rw [hm] at HR
  have k5 := fun W => ncompare_any (decide (A < 0)) (decide (B < 0)) (numW (A, p) m) (numW (B, q) m) m m W
  rw [← HR.out] at k5
  have hN := N4.start w M S N T
  clear HR b2 b4 hm hpm hqm
  generalize numW (A, p) m = v1 at *
  generalize numW (B, q) m = v2 at *
  go_enter Tryz.func108, Tryz.ntmps108
  go_wp2_with fail
  generalize (w.alloc (.cells #[.int .i64 M, .int .i64 S] 68)).alloc (.cells #[.int .i64 N, .int .i64 T] 68) = W0 at *
  have hN0 := hN.drew
  obtain ⟨⟨c0, c1, c2, c3⟩, _⟩ := hN0.fs
  go_region_law (first
    | (go_simp; go_at_call 169; (with_reducible refine (k1 _).mono ?_); rintro e w1 ⟨rfl, hA1⟩; first | (have hN1 := hN0.call hA1; obtain ⟨⟨d0, d1, d2, d3⟩, _⟩ := hN1.fs) | (have hN1 := hN2.call hA1; obtain ⟨⟨d0, d1, d2, d3⟩, _⟩ := hN1.fs; obtain ⟨f0, f1, f2, f3⟩ := hN1.fz))
    | (go_simp; go_at_call 169; (with_reducible refine (k2 _).mono ?_); rintro e w2 ⟨rfl, hA2⟩; first | (have hN2 := hN1.call hA2; obtain ⟨⟨d0, d1, d2, d3⟩, _⟩ := hN2.fs; obtain ⟨f0, f1, f2, f3⟩ := hN2.fz) | (have hN2 := hN0.call hA2; obtain ⟨⟨d0, d1, d2, d3⟩, _⟩ := hN2.fs)))
  all_goals
    first
      | (have hP := (hN2.put1 A (p : Int)).put2 B (q : Int); generalize World.setCell (World.setCell (World.setCell (World.setCell w2 _ _) _ _) _ _) _ _ = W9 at hP ⊢; have hQ : N4 w W9 A (p : Int) B (q : Int) := hP)
      | (have hP := (hN2.put2 B (q : Int)).put1 A (p : Int); generalize World.setCell (World.setCell (World.setCell (World.setCell w2 _ _) _ _) _ _) _ _ = W9 at hP ⊢; have hQ : N4 w W9 A (p : Int) B (q : Int) := hP)
      | (have hP := (hN1.put1 A (p : Int)).put2 B (q : Int); generalize World.setCell (World.setCell (World.setCell (World.setCell w1 _ _) _ _) _ _) _ _ = W9 at hP ⊢; have hQ : N4 w W9 A (p : Int) B (q : Int) := hP)
      | (have hP := (hN1.put2 B (q : Int)).put1 A (p : Int); generalize World.setCell (World.setCell (World.setCell (World.setCell w1 _ _) _ _) _ _) _ _ = W9 at hP ⊢; have hQ : N4 w W9 A (p : Int) B (q : Int) := hP)
    clear hP
    obtain ⟨⟨g0, g1, g2, g3⟩, _⟩ := hQ.fs
    go_wp2_with fail
    clear g0 g1 g2 g3
    have hQ' := hQ.drew
    go_region_held3 (fun w' => (w'.cell? ⟨w.heap.size, 0, none⟩ = some (.int .i64 A) ∧ w'.cell? ⟨w.heap.size, 1, none⟩ = some (.int .i64 (p : Int)) ∧ w'.cell? ⟨w.heap.size + 1, 0, none⟩ = some (.int .i64 B) ∧ w'.cell? ⟨w.heap.size + 1, 1, none⟩ = some (.int .i64 (q : Int))) ∧ N4 w w' A (p : Int) B (q : Int)) (first | (with_reducible assumption) | (with_reducible exact hQ'.fs)) (first
      | (go_at_call 170; (with_reducible refine (k3 _).mono ?_); rintro e w3 ⟨rfl, hA3⟩; have S3 := (N4.call (And.right (by with_reducible assumption)) hA3).fs)
      | (go_at_call 170; (with_reducible refine (k4 _).mono ?_); rintro e w4 ⟨rfl, hA4⟩; have S4 := (N4.call (And.right (by with_reducible assumption)) hA4).fs)
      | (go_at_call 171; (with_reducible refine (k5 _).mono ?_); rintro e w5 ⟨rfl, hA5⟩; have S5 := (N4.call (And.right (by with_reducible assumption)) hA5).fs))
    all_goals
      rename_i hHeld
      obtain ⟨_, hL⟩ := hHeld
      go_wp2_with fail
      go_ret
      exact ⟨rfl, hL.aw⟩
end
end Go.Proofs.YtoplengednoldaaGreatDoor
