/- The walk of LineKinds. -/
import Derived.Test.YtdngieihlcknmaaL20b
import Derived.Test.YtdngieihlcknmaaLineK2
import Derived.Test.YtdngieihlcknmaaNum2
import Derived.Test.YtdngieihlcknmaaSameR
import Derived.BigRegion
import Derived.Deep.CutRange
namespace Go.Proofs.Ytdngieihlcknmaa
set_option linter.unusedVariables false
set_option linter.unusedSimpArgs false
open Go.RowKit
theorem print_digs {n : Nat} (h : n < 100000000000000000000) : Digs (printL n) := by
  have hasc : ∀ l : List UInt8, (∀ c ∈ l, c.toNat ≤ 9) → ∀ c ∈ ascL l, 48 ≤ c.toNat ∧ c.toNat ≤ 57 := by
    intro l hl c hc
    unfold ascL at hc
    obtain ⟨x, hx, rfl⟩ := List.mem_map.1 hc
    have := hl x hx
    rw [UInt8.toNat_ofNat_of_lt' (by show 48 + x.toNat < 256; omega)]
    omega
  unfold printL
  by_cases h0 : n = 0
  · rw [if_pos h0]
    exact ⟨by simp [ascL], hasc _ (by intro c hc; rw [List.mem_singleton.1 hc]; decide)⟩
  · rw [if_neg h0]
    refine ⟨fun e => ?_, hasc _ (digF_le 20 n)⟩
    unfold ascL at e
    exact digF_ne 20 n (by omega) (by omega) (List.map_eq_nil_iff.1 e)
theorem print_len {n : Nat} (h : n < 4294967296) : (printL n).length ≤ 10 := by
  unfold printL ascL
  rw [List.length_map]
  split
  · simp
  · exact digF_short 20 n 10 (by omega)
/-- The three tables, as they lie in memory. -/
def KTab (w : World) (g : Nat) (d : List UInt8) : Prop :=
  (∀ k, k < 9 → w.cell? ⟨g, k, none⟩ = some (.string (mkS (valT k d)))) ∧ (∀ k, k < 9 → w.cell? ⟨g + 1, k, none⟩ = some (.int .i64 (valK k : Int))) ∧ (∀ k, k < 9 → w.cell? ⟨g + 1 + 1, k, none⟩ = some (.string (mkS (valW k d)))) ∧ g + 3 ≤ w.heap.size
theorem KTab.below {w w' : World} {g : Nat} {d : List UInt8} (h : KTab w g d) (k : Below w.heap.size w w') : KTab w' g d := by
  obtain ⟨h1, h2, h3, h4⟩ := h
  exact ⟨fun i hi => (k.cell (p := ⟨g, i, none⟩) (by show g < _; omega)).trans (h1 i hi), fun i hi => (k.cell (p := ⟨g + 1, i, none⟩) (by show g + 1 < _; omega)).trans (h2 i hi), fun i hi => (k.cell (p := ⟨g + 1 + 1, i, none⟩) (by show g + 1 + 1 < _; omega)).trans (h3 i hi), by have := k.size; omega⟩
theorem mkS_app2 (a b : List UInt8) : mkS a ++ mkS b = mkS (a ++ b) := mk_app a b
theorem ktab_new (w : World) (D : ByteArray) (d : List UInt8) (hD : D = mkS d) : KTab (((w.alloc (.cells #[.string D, .string (D ++ ⟨#[46, 53]⟩), .string (D ++ ⟨#[105]⟩), .string (D ++ ⟨#[117]⟩), .string ((⟨#[45]⟩ : ByteArray) ++ D ++ ⟨#[105]⟩), .string ((⟨#[45]⟩ : ByteArray) ++ D), .string ⟨#[116, 114, 117, 101]⟩, .string ⟨#[102, 97, 108, 115, 101]⟩, .string ((⟨#[34]⟩ : ByteArray) ++ D ++ ⟨#[34]⟩)] 9)).alloc (.cells #[.int .i64 0, .int .i64 0, .int .i64 1, .int .i64 2, .int .i64 1, .int .i64 0, .int .i64 3, .int .i64 3, .int .i64 4] 3)).alloc (.cells #[.string D, .string (D ++ ⟨#[46, 53]⟩), .string D, .string D, .string ((⟨#[45]⟩ : ByteArray) ++ D), .string ((⟨#[45]⟩ : ByteArray) ++ D), .string ⟨#[116, 114, 117, 101]⟩, .string ⟨#[102, 97, 108, 115, 101]⟩, .string D] 9)) w.heap.size d := by
  subst hD
  have e1 : mkS d ++ ⟨#[46, 53]⟩ = mkS (d ++ [46, 53]) := mk_app d [46, 53]
  have e2 : mkS d ++ ⟨#[105]⟩ = mkS (d ++ [105]) := mk_app d [105]
  have e3 : mkS d ++ ⟨#[117]⟩ = mkS (d ++ [117]) := mk_app d [117]
  have e4 : (⟨#[45]⟩ : ByteArray) ++ mkS d = mkS (45 :: d) := mk_app [45] d
  have e5 : mkS (45 :: d) ++ ⟨#[105]⟩ = mkS (45 :: (d ++ [105])) := mk_app (45 :: d) [105]
  have e6 : (⟨#[34]⟩ : ByteArray) ++ mkS d = mkS (34 :: d) := mk_app [34] d
  have e7 : mkS (34 :: d) ++ ⟨#[34]⟩ = mkS (34 :: (d ++ [34])) := mk_app (34 :: d) [34]
  rw [e1, e2, e3, e4, e5, e6, e7]
  refine ⟨fun k hk => ?_, fun k hk => ?_, fun k hk => ?_, by simp⟩
  · rw [World.cell?_alloc_lt _ _ ⟨_, _, none⟩ (by simp; omega), World.cell?_alloc_lt _ _ ⟨_, _, none⟩ (by simp), World.cell?_alloc_at _ _ _ _ rfl]
    match k, hk with
    | 0, _ => rfl
    | 1, _ => rfl
    | 2, _ => rfl
    | 3, _ => rfl
    | 4, _ => rfl
    | 5, _ => rfl
    | 6, _ => rfl
    | 7, _ => rfl
    | 8, _ => rfl
    | n + 9, h => omega
  · rw [World.cell?_alloc_lt _ _ ⟨_, _, none⟩ (by simp), World.cell?_alloc_at _ _ _ _ (by simp)]
    match k, hk with
    | 0, _ => rfl
    | 1, _ => rfl
    | 2, _ => rfl
    | 3, _ => rfl
    | 4, _ => rfl
    | 5, _ => rfl
    | 6, _ => rfl
    | 7, _ => rfl
    | 8, _ => rfl
    | n + 9, h => omega
  · rw [World.cell?_alloc_at _ _ _ _ (by simp)]
    match k, hk with
    | 0, _ => rfl
    | 1, _ => rfl
    | 2, _ => rfl
    | 3, _ => rfl
    | 4, _ => rfl
    | 5, _ => rfl
    | 6, _ => rfl
    | 7, _ => rfl
    | 8, _ => rfl
    | n + 9, h => omega
theorem valT_len (k : Nat) (d : List UInt8) : (valT k d).length ≤ d.length + 5 := by
  match k with
  | 0 => simp [valT]
  | 1 => simp [valT]
  | 2 => simp [valT]
  | 3 => simp [valT]
  | 4 => simp [valT]
  | 5 => simp [valT]
  | 6 => simp [valT, wTrue]
  | 7 => simp [valT, wFalse]
  | k + 8 => simp [valT]
/-- The letters ahead. -/
def letL (k : Nat) : List UInt8 := (List.range k).map fun i => UInt8.ofNat (97 + i)
theorem letL_low {k : Nat} (h : k ≤ 7) : Low (letL k) := by
  intro c hc
  obtain ⟨i, hi, rfl⟩ := List.mem_map.1 hc
  have := List.mem_range.1 hi
  rw [UInt8.toNat_ofNat_of_lt' (by show 97 + i < 256; omega)]
  omega
theorem letL_len (k : Nat) : (letL k).length = k := by simp [letL]
theorem ahead_snoc (k : Nat) : mkS (aheadL (letL (k + 1))) = mkS (aheadL (letL k)) ++ ((⟨#[107]⟩ : ByteArray) ++ ⟨#[UInt8.ofNat (97 + k)]⟩ ++ ⟨#[61, 49, 44]⟩) := by
  unfold letL aheadL
  rw [List.range_succ, List.map_append, List.flatMap_append, ← mk_app]
  congr 1
theorem conv_let (W : World) (D : Nat) (h : D ≤ 9) : (convert 53 9 (.slice (some ⟨W.heap.size, 0, none⟩) 1 1)).run Try.prog (W.alloc (.cells #[.int .u8 (97 + (D : Int))] 5)) = .ok (.string ⟨#[UInt8.ofNat (97 + D)]⟩) (W.alloc (.cells #[.int .u8 (97 + (D : Int))] 5)) := by
  have := conv_byte W (UInt8.ofNat (97 + D))
  have e : ((UInt8.ofNat (97 + D)).toNat : Int) = 97 + (D : Int) := by
    rw [UInt8.toNat_ofNat_of_lt' (by show 97 + D < 256; omega)]; omega
  rw [e] at this
  exact this
/-- What stands in memory of the row that was read. -/
def KindAt (w : World) (bk off m fb fo fc : Nat) (V : ByteArray) (O P K : Nat) : Prop :=
  (bk < w.heap.size ∧ fb < w.heap.size) ∧ (w.cell? ⟨bk, off + 4, none⟩ = some (.slice (some ⟨fb, fo, none⟩) (m + 1) fc) ∧ w.cell? ⟨bk, off + 8, none⟩ = some (.string ⟨#[55]⟩)) ∧
  w.cell? ⟨fb, fo + m * 5, none⟩ = some (.string ⟨#[120]⟩) ∧ w.cell? ⟨fb, fo + m * 5 + 1, none⟩ = some (.string V) ∧ w.cell? ⟨fb, fo + m * 5 + 2, none⟩ = some (.int .i64 O) ∧ w.cell? ⟨fb, fo + m * 5 + 3, none⟩ = some (.int .i64 P) ∧ w.cell? ⟨fb, fo + m * 5 + 4, none⟩ = some (.int .i64 K)
theorem KindAt.below {w w' : World} {bk off m fb fo fc : Nat} {V : ByteArray} {O P K : Nat} (h : KindAt w bk off m fb fo fc V O P K) (k : Below w.heap.size w w') : KindAt w' bk off m fb fo fc V O P K := by
  obtain ⟨⟨h1, h2⟩, ⟨c1, c2⟩, f0, f1, f2, f3, f4⟩ := h
  have q : ∀ x o v, x < w.heap.size → w.cell? ⟨x, o, none⟩ = some v → w'.cell? ⟨x, o, none⟩ = some v := fun x o v hx hv => (k.cell (p := ⟨x, o, none⟩) hx).trans hv
  have := k.size
  exact ⟨⟨by omega, by omega⟩, ⟨q _ _ _ h1 c1, q _ _ _ h1 c2⟩, q _ _ _ h2 f0, q _ _ _ h2 f1, q _ _ _ h2 f2, q _ _ _ h2 f3, q _ _ _ h2 f4⟩
def KindE (m : Nat) (V : ByteArray) (O P K : Nat) (en : Ending) (w : World) : Prop := ∃ bk off c fb fo fc, en = .returned (.tuple #[.slice (some ⟨bk, off, none⟩) 1 c, .bool true]) ∧ KindAt w bk off m fb fo fc V O P K
theorem kind_read {s : ByteArray} (hs : s.size ≤ 1048576) {R : MRow} {n k : Nat} {d cs : List UInt8} (h : lineRows s.data.toList = ([R], n, false)) (hq : KindRow k d cs R) (w : World) :
    Calls Try.prog 9 #[.string s] w fun en w' => KindE cs.length (mkS (valW k d)) (2 + (aheadL cs).length) (2 + (aheadL cs).length + 2 + valS k) (valK k) en w' ∧ Below w.heap.size w w' := by
  refine (rows_any s w hs).mono ?_
  rintro en w' ⟨⟨A, m, c, rfl, hR⟩, hb⟩
  rw [h] at hR ⊢
  simp only [Bool.false_eq_true, if_false] at hR
  obtain rfl : 1 = m := hR.len
  obtain ⟨bk, off, tA, tc, fA, fc, rfl, hbk, ⟨c0, c1, c2, c3, c4, c5, c6, c7, c8, c9⟩, ht, hf⟩ := hR.at_ (i := 0) (R := R) rfl
  obtain ⟨fs, q1, q2, q3⟩ := hq
  rw [q2] at hf c4
  have hx : (fs ++ [(⟨mkS [120], mkS (valW k d), 2 + (aheadL cs).length, 2 + (aheadL cs).length + 2 + valS k, valK k⟩ : MField)])[cs.length]? = some ⟨mkS [120], mkS (valW k d), 2 + (aheadL cs).length, 2 + (aheadL cs).length + 2 + valS k, valK k⟩ := by
    rw [← q1, List.getElem?_append_right (Nat.le_refl _), Nat.sub_self]; rfl
  obtain ⟨fb, fo, rfl, hfb, f0, f1, f2, f3, f4⟩ := hf.fld hx
  have hlen : (fs ++ [(⟨mkS [120], mkS (valW k d), 2 + (aheadL cs).length, 2 + (aheadL cs).length + 2 + valS k, valK k⟩ : MField)]).length = cs.length + 1 := by simp [q1]
  rw [hlen] at c4
  simp only [Nat.zero_mul, Nat.add_zero] at c4 c8
  rw [q3] at c8
  exact ⟨⟨bk, off, c, fb, fo, fc, rfl, ⟨hbk, hfb⟩, ⟨c4, c8⟩, f0, f1, f2, f3, f4⟩, hb⟩
theorem kind_bad {s : ByteArray} (hs : s.size ≤ 1048576) (h : (lineRows s.data.toList).2.2 = true) (w : World) :
    Calls Try.prog 9 #[.string s] w fun en w' => (∃ A n c, en = .returned (.tuple #[.slice A n c, .bool false])) ∧ Below w.heap.size w w' := by
  refine (rows_any s w hs).mono ?_
  rintro en w' ⟨⟨A, m, c, rfl, hR⟩, hb⟩
  rw [h]
  exact ⟨⟨A, m, c, rfl⟩, hb⟩
theorem valS_0 {k : Nat} (h : k < 8) : valS k = 0 := by
  match k, h with
  | 0, _ => rfl
  | 1, _ => rfl
  | 2, _ => rfl
  | 3, _ => rfl
  | 4, _ => rfl
  | 5, _ => rfl
  | 6, _ => rfl
  | 7, _ => rfl
  | n + 8, h => omega
theorem kind_str (k : Nat) (d cs : List UInt8) : (((((⟨#[109, 32]⟩ : ByteArray) ++ mkS (aheadL cs)) ++ (⟨#[120, 61]⟩ : ByteArray)) ++ mkS (valT k d)) ++ (⟨#[32, 55, 10]⟩ : ByteArray)).data.toList = kindText k d cs := by
  simp only [str_app]
  unfold kindText mkS
  simp
theorem kind_str2 (k : Nat) (d : List UInt8) : (((⟨#[109, 32, 120, 61]⟩ : ByteArray) ++ mkS (valT k d)) ++ (⟨#[63, 10]⟩ : ByteArray)).data.toList = kindNo k d := by
  simp only [str_app]
  unfold kindNo mkS
  simp
theorem wrap8 {x : Int} (h0 : 0 ≤ x) (h1 : x ≤ 255) : IntKind.u8.wrap x = x := by
  unfold IntKind.wrap; simp [IntKind.bits, IntKind.signed]; omega
set_option maxRecDepth 100000 in
set_option maxHeartbeats 6400000 in
theorem kinds20_nat (n b c : Nat) (w : World) (hn : n < 4294967296) (hb : b ≤ 255) (hc : c ≤ 255) :
    Calls Try.prog 7 #[.int .u32 (n : Int), .int .u8 (b : Int), .int .u8 (c : Int)] w fun e w' => e = .returned (.bool true) ∧ Below w.heap.size w w' := by
  have kT := fun W => text20_any n (by omega) W
  have hd := print_digs (n := n) (by omega)
  have hdl := print_len hn
  generalize printL n = d at kT hd hdl
  obtain ⟨k, hk⟩ : ∃ k, k = b % 9 := ⟨_, rfl⟩
  obtain ⟨q, hq⟩ : ∃ q, q = c % 7 := ⟨_, rfl⟩
  have hk9 : k < 9 := by omega
  have hq7 : q < 7 := by omega
  have r1 : (b : Int) % 9 = (k : Int) := by omega
  have r2 : (b : Int).tmod 9 = (k : Int) := by rw [Int.tmod_eq_emod_of_nonneg (by omega)]; exact r1
  have r3 : (c : Int) % 7 = (q : Int) := by omega
  have r4 : (c : Int).tmod 7 = (q : Int) := by rw [Int.tmod_eq_emod_of_nonneg (by omega)]; exact r3
  obtain ⟨D, hD⟩ : ∃ D, mkS d = D := ⟨_, rfl⟩
  have hDs : D.size ≤ 10 := by rw [← hD]; exact hdl
  rw [hD] at kT
  have z1 : ¬ 9223372036854775807 < D.size + 2 := by omega
  have z2 : ¬ 9223372036854775807 < D.size + 1 := by omega
  have z3 : ¬ 9223372036854775807 < 1 + D.size := by omega
  have z4 : ¬ 9223372036854775807 < 1 + D.size + 1 := by omega
  have HD := Lib.hid hD
  clear hD hk hq
  go_enter Try.func7, Try.ntmps7
  go_upto_block 0 with (first
    | (go_at_call 8; refine (known20_any _).mono ?_; rintro e w1 ⟨rfl, hb1⟩)
    | (go_at_call 21; refine (kT _).mono ?_; rintro e w2 ⟨rfl, hb2⟩))
  have hT0 := ktab_new w2 D d HD.out.symm
  have hb0 : Below w.heap.size w (((w2.alloc (.cells #[.string D, .string (D ++ ⟨#[46, 53]⟩), .string (D ++ ⟨#[105]⟩), .string (D ++ ⟨#[117]⟩), .string ((⟨#[45]⟩ : ByteArray) ++ D ++ ⟨#[105]⟩), .string ((⟨#[45]⟩ : ByteArray) ++ D), .string ⟨#[116, 114, 117, 101]⟩, .string ⟨#[102, 97, 108, 115, 101]⟩, .string ((⟨#[34]⟩ : ByteArray) ++ D ++ ⟨#[34]⟩)] 9)).alloc (.cells #[.int .i64 0, .int .i64 0, .int .i64 1, .int .i64 2, .int .i64 1, .int .i64 0, .int .i64 3, .int .i64 3, .int .i64 4] 3)).alloc (.cells #[.string D, .string (D ++ ⟨#[46, 53]⟩), .string D, .string D, .string ((⟨#[45]⟩ : ByteArray) ++ D), .string ((⟨#[45]⟩ : ByteArray) ++ D), .string ⟨#[116, 114, 117, 101]⟩, .string ⟨#[102, 97, 108, 115, 101]⟩, .string D] 9)) := bl_alloc (bl_alloc (bl_alloc (bl_any hb1 hb2) _) _) _
  clear kT hb1 hb2 z1 z2 z3 z4 r1 r2
  go_wp2_with fail
  go_loopw [12, 13] (fun s i wr => (KTab wr w2.heap.size d ∧ Below w.heap.size w wr) ∧ ∃ j : Nat, j ≤ q ∧ i = .int .i64 j ∧ s = .string (mkS (aheadL (letL j)))) (fun _ i _ => q - (intOf i).toNat)
  case atStart => exact ⟨⟨hT0, hb0⟩, 0, by omega, rfl, rfl⟩
  case round =>
    clear hT0 hb0
    obtain ⟨⟨hT, hbw⟩, j, hj, rfl, rfl⟩ := hrel
    have hal : (mkS (aheadL (letL j))).size = 5 * j := by show (aheadL (letL j)).length = _; rw [ahead_len, letL_len]
    by_cases hlt : j < q
    case pos =>
      have hd1 : decide ((j : Int) < q) = true := decide_eq_true (by omega)
      have hd2 : decide (j < q) = true := decide_eq_true (by omega)
      have hcv := conv_let wr j (by omega)
      have hw1 : IntKind.u8.wrap (j : Int) = j := wrap8 (by omega) (by omega)
      have hw2 : IntKind.u8.wrap (97 + (j : Int)) = 97 + j := wrap8 (by omega) (by omega)
      have HS := Lib.hid (ahead_snoc j)
      generalize mkS (aheadL (letL j)) = A at HS hal
      have hz : ¬ 9223372036854775807 < A.size + 5 := by omega
      generalize UInt8.ofNat (97 + j) = X at HS hcv
      clear hal
      go_wp2_with fail
      have hb4 : Below wr.heap.size wr (wr.alloc (.cells #[.int .u8 (97 + (j : Int))] 5)) := (Below.refl _ _).alloc (Nat.le_refl _) _
      exact ⟨⟨⟨hT.below hb4, bl_any hbw hb4⟩, j + 1, by omega, rfl, by rw [HS.out]⟩, by (simp only [intOf]; omega)⟩
    case neg =>
      obtain rfl : j = q := by omega
      have hd1 : decide ((j : Int) < j) = false := decide_eq_false (by omega)
      have hd2 : decide (j < j) = false := decide_eq_false (by omega)
      obtain ⟨R, hR, hQ⟩ := kind_rows (k := k) hd (letL_low (show j ≤ 7 by omega))
      have hR2 := kind_no (k := k) hd
      rw [← kind_str] at hR
      rw [← kind_str2] at hR2
      have kR := fun W hs => kind_read (w := W) hs hR hQ
      have kN := fun W hs => kind_bad (w := W) hs hR2
      rw [letL_len] at kR
      have hTs : (mkS (valT k d)).size ≤ 15 := by show (valT k d).length ≤ 15; have := valT_len k d; omega
      have t1 := hT.1 k hk9
      have hgl := hT.2.2.2
      have hgl2 : w2.heap.size < wr.heap.size := by omega
      have hi0 : (0 : Int) ≤ k := by omega
      have hi1 : (k : Int) < 9 := by omega
      clear hR hR2 hQ hd
      have hAl : (aheadL (letL j)).length = (mkS (aheadL (letL j))).size := rfl
      rw [hAl] at kR
      generalize mkS (aheadL (letL j)) = A at kR hal
      generalize mkS (valT k d) = T at kR kN hTs t1
      have z1 : ¬ 9223372036854775807 < 2 + A.size := by omega
      have z2 : ¬ 9223372036854775807 < 2 + A.size + 2 := by omega
      have z3 : ¬ 9223372036854775807 < 2 + A.size + 2 + T.size := by omega
      have z4 : ¬ 9223372036854775807 < 2 + A.size + 2 + T.size + 3 := by omega
      have z5 : ¬ 9223372036854775807 < 4 + T.size := by omega
      have z6 : ¬ 9223372036854775807 < 4 + T.size + 2 := by omega
      have kR2 := fun W => kR W (by simp only [ByteArray.size_append]; have : (⟨#[109, 32]⟩ : ByteArray).size = 2 := rfl; have : (⟨#[120, 61]⟩ : ByteArray).size = 2 := rfl; have : (⟨#[32, 55, 10]⟩ : ByteArray).size = 3 := rfl; omega)
      have kN2 := fun W => kN W (by simp only [ByteArray.size_append]; have : (⟨#[109, 32, 120, 61]⟩ : ByteArray).size = 4 := rfl; have : (⟨#[63, 10]⟩ : ByteArray).size = 2 := rfl; omega)
      have hA35 : A.size ≤ 35 := by omega
      clear kR kN hal hAl
      go_upto_region 17 with (first
        | (go_at_call 9; (with_reducible refine (kR2 _).mono ?_); rintro e w3 ⟨⟨bk, off, cc, fb, fo, fc, rfl, hK⟩, hb3⟩; have t3 : w3.cell? ⟨w2.heap.size, k, none⟩ = some (.string T) := (hb3.cell (p := ⟨w2.heap.size, k, none⟩) hgl2).trans t1; have hT3 := hT.below hb3)
        | (go_at_call 9; (with_reducible refine (kN2 _).mono ?_); rintro e w4 ⟨⟨A4, n4, c4, rfl⟩, hb4⟩; have hT4 := hT3.below hb4; have hK4 := hK.below hb4; obtain ⟨⟨l1, l2⟩, ⟨c1, c2⟩, f0, f1, f2, f3, f4⟩ := hK4))
      have s1 := hT4.2.1 k hk9
      have s2 := hT4.2.2.1 k hk9
      have hgl4 := hT4.2.2.2
      generalize mkS (valW k d) = V at f1 s2
      generalize valK k = KK at f4 s1
      have hj0 : (0 : Int) ≤ j := by omega
      have hj1 : (j : Int) < (j : Int) + 1 := by omega
      have hj2 : (j : Int) + 1 - 1 = j := by omega
      clear hT hT3 hT4 hK kR2 kN2 t1 t3 HD z1 z2 z3 z4 z5 z6
      go_cut [18] from 120 to 131 (fun v wx => (∃ g, v = .pointer (some ⟨g, 0, none⟩) ∧ wx.cell? ⟨g, 0, none⟩ = some (.string ⟨#[120]⟩) ∧ wx.cell? ⟨g, 1, none⟩ = some (.string V) ∧ wx.cell? ⟨g, 2, none⟩ = some (.int .i64 ((2 + A.size : Nat) : Int)) ∧ wx.cell? ⟨g, 3, none⟩ = some (.int .i64 ((2 + A.size + 2 + valS k : Nat) : Int)) ∧ wx.cell? ⟨g, 4, none⟩ = some (.int .i64 (KK : Int))) ∧ Below w4.heap.size w4 wx)
      case first =>
        go_region
        all_goals
          go_wp2_with fail
          go_meet
          refine ⟨⟨_, rfl, ?_⟩, ?_⟩
          · simp [go_sem]
          · exact ((Below.refl _ _).alloc (Nat.le_refl _) _).drew
      case rest =>
        obtain ⟨⟨g, rfl, g0, g1, g2, g3, g4⟩, hb5⟩ := hcut
        have b2 : wc.cell? ⟨bk, off + 8, none⟩ = some (.string ⟨#[55]⟩) := (hb5.cell (p := ⟨bk, off + 8, none⟩) l1).trans c2
        have b3 : wc.cell? ⟨w2.heap.size + 1, k, none⟩ = some (.int .i64 (KK : Int)) := (hb5.cell (p := ⟨w2.heap.size + 1, k, none⟩) (by show w2.heap.size + 1 < _; omega)).trans s1
        have b4 : wc.cell? ⟨w2.heap.size + 1 + 1, k, none⟩ = some (.string V) := (hb5.cell (p := ⟨w2.heap.size + 1 + 1, k, none⟩) (by show w2.heap.size + 1 + 1 < _; omega)).trans s2
        clear f0 f1 f2 f3 f4 c1 c2 s1 s2
        have hbF := bl_any (bl_any (bl_any hbw hb3) hb4) hb5
        by_cases h8 : k = 8
        · have e8 : ((k : Int) == 8) = true := by rw [beq_iff_eq]; omega
          have hv8 : valS k = 1 := by rw [h8]; rfl
          rw [hv8] at g3
          have Hg3 := g3
          clear h8 hv8
          go_wp2_with fail
          go_quiet (fail)
          go_wp2_with fail
          go_ret
          exact ⟨rfl, bl_drewN hbF _⟩
        · have e8 : ((k : Int) == 8) = false := by rw [beq_eq_false_iff_ne]; omega
          have hv8 : valS k = 0 := valS_0 (by omega)
          rw [hv8] at g3
          clear h8 hv8
          go_wp2_with fail
          go_quiet (fail)
          go_wp2_with fail
          go_ret
          exact ⟨rfl, bl_drewN hbF _⟩
theorem kinds20_any (a b c : Int) (w : World) (ha : 0 ≤ a ∧ a ≤ 4294967295) (hb : 0 ≤ b ∧ b ≤ 255) (hc : 0 ≤ c ∧ c ≤ 255) :
    Calls Try.prog 7 #[.int .u32 a, .int .u8 b, .int .u8 c] w fun e w' => e = .returned (.bool true) ∧ Below w.heap.size w w' := by
  obtain ⟨n, rfl⟩ : ∃ n : Nat, a = n := ⟨a.toNat, by omega⟩
  obtain ⟨b, rfl⟩ : ∃ n : Nat, b = n := ⟨b.toNat, by omega⟩
  obtain ⟨c, rfl⟩ : ∃ n : Nat, c = n := ⟨c.toNat, by omega⟩
  exact kinds20_nat n b c w (by omega) (by omega) (by omega)
theorem wf_32 {n : Int} (h : (Lit.int .u32 n).wf = true) : 0 ≤ n ∧ n ≤ 4294967295 := by
  simp [Lit.wf, IntKind.min, IntKind.max, IntKind.signed, IntKind.bits] at h
  omega
theorem wf_8 {n : Int} (h : (Lit.int .u8 n).wf = true) : 0 ≤ n ∧ n ≤ 255 := by
  simp [Lit.wf, IntKind.min, IntKind.max, IntKind.signed, IntKind.bits] at h
  omega
end Go.Proofs.Ytdngieihlcknmaa
