/- The walk of LineQuotes. -/
import Derived.Test.YtdngieihlcknmaaL20b
import Derived.Test.YtdngieihlcknmaaLineQ2
import Derived.Test.YtdngieihlcknmaaRefLg
import Derived.Test.YtdngieihlcknmaaSameR
namespace Go.Proofs.Ytdngieihlcknmaa
set_option linter.unusedVariables false
set_option linter.unusedSimpArgs false
open Go.RowKit
theorem mk_self (a : ByteArray) : mkS a.data.toList = a := by apply bytes_ext; rfl
theorem lg_name {wh : Int} {v : ByteArray} (h : badFromL wh v.data.toList v.size 0 < 0) : NameB v.data.toList := by
  intro c hc
  obtain ⟨k, hk, rfl⟩ := List.getElem_of_mem hc
  have := badFromL_all v.size 0 h k (by omega) (by simpa using hk)
  unfold lgL at this
  have := of_decide_eq_true this
  rw [bt_get hk] at this
  omega
theorem lg_head {v : ByteArray} (h : badFromL 0 v.data.toList v.size 0 < 0) (h0 : v ≠ ⟨#[]⟩) : (35 : UInt8) ∉ v.data.toList.head? := by
  have hne : v.data.toList ≠ [] := fun e => h0 (by apply bytes_ext; rw [e])
  have hpos : 0 < v.data.toList.length := List.length_pos_iff.2 hne
  have := badFromL_all v.size 0 h 0 (by omega) (by simpa using hpos)
  unfold lgL at this
  have := of_decide_eq_true this
  rw [bt_get hpos] at this
  intro hm
  rw [List.head?_eq_getElem?, List.getElem?_eq_getElem hpos] at hm
  rw [Option.mem_def] at hm
  injection hm with hm
  have h2 := this.2.2.2
  rcases h2 with h2 | h2 | h2
  · apply h2; rw [hm]; rfl
  · omega
  · omega
theorem vl_val {v : ByteArray} (h : vlL v.data.toList = true) : ValB v.data.toList := by
  obtain ⟨h1, h2, h3⟩ := vlL_get h
  refine ⟨by have := badU_bd v.data.toList; omega, fun c hc => ?_⟩
  obtain ⟨k, hk, rfl⟩ := List.getElem_of_mem hc
  have := h2 k hk
  unfold vbL at this
  have := of_decide_eq_true this
  rw [bt_get hk] at this
  omega
theorem ne_list {v : ByteArray} (h : v ≠ ⟨#[]⟩) : v.data.toList ≠ [] := fun e => h (by apply bytes_ext; rw [e])
theorem mark_size (m : List UInt8) {v : ByteArray} (h : ¬ 60 < v.size) : (mkS (markL m v.data.toList)).size ≤ 120 := by
  show (markL m v.data.toList).length ≤ 120
  have := markL_len m v.data.toList
  have hL : v.data.toList.length = v.size := by simp
  omega
theorem str_ne {a : ByteArray} (h : a ≠ ⟨#[]⟩) : a.toList.isEmpty = false ∧ (a.toList == []) = false := by
  have : a.toList ≠ [] := fun e => h (by apply bytes_ext; rw [← Lib.toList_data, e])
  cases hl : a.toList with
  | nil => exact absurd hl this
  | cons x y => exact ⟨rfl, rfl⟩
/-- What stands in memory of the one row that was read. -/
def QAt (w : World) (bk off tb to_ tc fb fo fc : Nat) (a b c d e : ByteArray) (x y : Int) : Prop :=
  (bk < w.heap.size ∧ tb < w.heap.size ∧ fb < w.heap.size) ∧ (w.cell? ⟨bk, off + 1, none⟩ = some (.string a) ∧ w.cell? ⟨bk, off + 3, none⟩ = some (.slice (some ⟨tb, to_, none⟩) 1 tc) ∧ w.cell? ⟨bk, off + 4, none⟩ = some (.slice (some ⟨fb, fo, none⟩) 1 fc) ∧ w.cell? ⟨bk, off + 7, none⟩ = some (.bool false)) ∧
  (w.cell? ⟨tb, to_, none⟩ = some (.string b) ∧ w.cell? ⟨tb, to_ + 1, none⟩ = some (.string c)) ∧ w.cell? ⟨fb, fo, none⟩ = some (.string d) ∧ w.cell? ⟨fb, fo + 1, none⟩ = some (.string e) ∧ w.cell? ⟨fb, fo + 2, none⟩ = some (.int .i64 x) ∧ w.cell? ⟨fb, fo + 3, none⟩ = some (.int .i64 y) ∧ w.cell? ⟨fb, fo + 4, none⟩ = some (.int .i64 4)
def QuoteE (a b c d e : ByteArray) (en : Ending) (w : World) : Prop := ∃ bk off k tb to_ tc fb fo fc x y, en = .returned (.tuple #[.slice (some ⟨bk, off, none⟩) 1 k, .bool true]) ∧ QAt w bk off tb to_ tc fb fo fc a b c d e x y
theorem quote_rows {s a b c d e : ByteArray} (hs : s.size ≤ 1048576) {R : MRow} {n : Nat} (h : lineRows s.data.toList = ([R], n, false)) (hq : QuotedRow a.data.toList b.data.toList c.data.toList d.data.toList e.data.toList R) (w : World) :
    Calls Try.prog 9 #[.string s] w fun en w' => QuoteE a b c d e en w' ∧ Below w.heap.size w w' := by
  refine (rows_any s w hs).mono ?_
  rintro en w' ⟨⟨A, m, k, rfl, hR⟩, hb⟩
  rw [h] at hR ⊢
  simp only [Bool.false_eq_true, if_false] at hR
  obtain rfl : 1 = m := hR.len
  obtain ⟨bk, off, tA, tc, fA, fc, rfl, hbk, ⟨c0, c1, c2, c3, c4, c5, c6, c7, c8, c9⟩, ht, hf⟩ := hR.at_ (i := 0) (R := R) rfl
  obtain ⟨q1, q2, ⟨t, q3, q4, q5⟩, f, q6, q7, q8, q9⟩ := hq
  rw [q3] at ht c3
  rw [q6] at hf c4
  obtain ⟨tb, to_, rfl, htb, t0, t1, t2, t3⟩ := ht.tag (i := 0) rfl
  obtain ⟨fb, fo, rfl, hfb, f0, f1, f2, f3, f4⟩ := hf.fld (i := 0) rfl
  simp only [Nat.zero_mul, Nat.add_zero] at c1 c3 c4 c7 t0 t1 f0 f1 f2 f3 f4
  rw [q1, mk_self] at c1
  rw [q2] at c7
  rw [q4, mk_self] at t0
  rw [q5, mk_self] at t1
  rw [q7, mk_self] at f0
  rw [q8, mk_self] at f1
  rw [q9] at f4
  exact ⟨⟨bk, off, k, tb, to_, tc, fb, fo, fc, _, _, rfl, ⟨hbk, htb, hfb⟩, ⟨c1, c3, c4, c7⟩, ⟨t0, t1⟩, f0, f1, f2, f3, f4⟩, hb⟩
theorem quote_str (A B C D E : List UInt8) : (((((((((mkS (markL inM A) ++ (⟨#[44]⟩ : ByteArray)) ++ mkS (markL inK B)) ++ (⟨#[61]⟩ : ByteArray)) ++ mkS (markL inK C)) ++ (⟨#[32]⟩ : ByteArray)) ++ mkS (markL inK D)) ++ (⟨#[61, 34]⟩ : ByteArray)) ++ mkS (markL inT E)) ++ (⟨#[34, 10]⟩ : ByteArray)).data.toList = quoteLine A B C D E := by
  simp only [str_app]
  unfold quoteLine mkS
  simp
set_option maxRecDepth 100000 in
set_option maxHeartbeats 6400000 in
theorem quotes20_any (a b c d e : ByteArray) (w : World) (ha : a.size ≤ 9223372036854775807) (hb : b.size ≤ 9223372036854775807) (hc : c.size ≤ 9223372036854775807) (hd : d.size ≤ 9223372036854775807) (he : e.size ≤ 9223372036854775807) :
    Calls Try.prog 6 #[.string a, .string b, .string c, .string d, .string e] w fun e w' => e = .returned (.bool true) ∧ Below w.heap.size w w' := by
  by_cases h1 : 60 < a.size
  · have d1 : decide ((60 : Int) < a.size) = true := decide_eq_true (by omega)
    go_enter Try.func6, Try.ntmps6
    go_wp2_with (go_at_call 8; refine (known20_any _).mono ?_; rintro e w1 ⟨rfl, hb1⟩)
    go_ret
    exact ⟨rfl, hb1⟩
  have d1 : decide ((60 : Int) < a.size) = false := decide_eq_false (by omega)
  by_cases h2 : 60 < b.size
  · have d2 : decide ((60 : Int) < b.size) = true := decide_eq_true (by omega)
    go_enter Try.func6, Try.ntmps6
    go_wp2_with (go_at_call 8; refine (known20_any _).mono ?_; rintro e w1 ⟨rfl, hb1⟩)
    go_ret
    exact ⟨rfl, hb1⟩
  have d2 : decide ((60 : Int) < b.size) = false := decide_eq_false (by omega)
  by_cases h3 : 60 < c.size
  · have d3 : decide ((60 : Int) < c.size) = true := decide_eq_true (by omega)
    go_enter Try.func6, Try.ntmps6
    go_wp2_with (go_at_call 8; refine (known20_any _).mono ?_; rintro e w1 ⟨rfl, hb1⟩)
    go_ret
    exact ⟨rfl, hb1⟩
  have d3 : decide ((60 : Int) < c.size) = false := decide_eq_false (by omega)
  by_cases h4 : 60 < d.size
  · have d4 : decide ((60 : Int) < d.size) = true := decide_eq_true (by omega)
    go_enter Try.func6, Try.ntmps6
    go_wp2_with (go_at_call 8; refine (known20_any _).mono ?_; rintro e w1 ⟨rfl, hb1⟩)
    go_ret
    exact ⟨rfl, hb1⟩
  have d4 : decide ((60 : Int) < d.size) = false := decide_eq_false (by omega)
  by_cases h5 : 60 < e.size
  · have d5 : decide ((60 : Int) < e.size) = true := decide_eq_true (by omega)
    go_enter Try.func6, Try.ntmps6
    go_wp2_with (go_at_call 8; refine (known20_any _).mono ?_; rintro e w1 ⟨rfl, hb1⟩)
    go_ret
    exact ⟨rfl, hb1⟩
  have d5 : decide ((60 : Int) < e.size) = false := decide_eq_false (by omega)
  have hL : e.data.toList.length = e.size := by simp
  have kA := fun W => refBadL_any 0 (.inl rfl) a W ha
  have kB := fun W => refBadL_any 1 (.inr rfl) b W hb
  have kD := fun W => refBadL_any 1 (.inr rfl) d W hd
  have kC := fun W => refValueL_any c W (by omega)
  have kE := fun W => refBadU_any e W (by omega)
  have m1 := fun W => measure_any a W (by omega)
  have m2 := fun W => key_any b W (by omega)
  have m3 := fun W => key_any c W (by omega)
  have m4 := fun W => key_any d W (by omega)
  have m5 := fun W => quote_any e W (by omega)
  have s1 := mark_size [44, 32] h1
  have s2 := mark_size [44, 32, 61] h2
  have s3 := mark_size [44, 32, 61] h3
  have s4 := mark_size [44, 32, 61] h4
  have s5 := mark_size [34, 92] h5
  have hN1 := @lg_name 0 a
  have hN0 := @lg_head a
  have hN2 := @lg_name 1 b
  have hN4 := @lg_name 1 d
  have hN3 := @vl_val c
  have hN5 : ¬ 0 ≤ badU e.data.toList → badU e.data.toList = -1 := fun h => by have := badU_bd e.data.toList; omega
  generalize badFromL 0 a.data.toList a.size 0 = A0 at kA hN1 hN0
  generalize badFromL 1 b.data.toList b.size 0 = B0 at kB hN2
  generalize badFromL 1 d.data.toList d.size 0 = D0 at kD hN4
  generalize hC0 : vlL c.data.toList = C0 at kC hN3
  obtain ⟨E0, hE0⟩ : ∃ E0, badU e.data.toList = E0 := ⟨_, rfl⟩
  rw [hE0] at kE
  rw [hE0] at hN5
  have HE0 := Lib.hid hE0
  have HC0 := Lib.hid hC0
  clear hE0 hC0
  go_enter Try.func6, Try.ntmps6
  go_upto_region 5 with (go_at_call 8; refine (known20_any _).mono ?_; rintro e w1 ⟨rfl, hb1⟩)
  by_cases q1 : 0 ≤ A0
  · have p1 : decide (0 ≤ A0) = true := decide_eq_true q1
    go_wp2_with (go_at_call 18; (with_reducible refine (kA _).mono ?_); rintro e w1 ⟨rfl, rfl⟩)
    go_ret
    exact ⟨rfl, hb1⟩
  have p1 : decide (0 ≤ A0) = false := decide_eq_false q1
  by_cases q2 : 0 ≤ B0
  · have p2 : decide (0 ≤ B0) = true := decide_eq_true q2
    go_wp2_with (first
      | (go_at_call 18; (with_reducible refine (kA _).mono ?_); rintro e w1 ⟨rfl, rfl⟩)
      | (go_at_call 18; (with_reducible refine (kB _).mono ?_); rintro e w1 ⟨rfl, rfl⟩))
    go_ret
    exact ⟨rfl, hb1⟩
  have p2 : decide (0 ≤ B0) = false := decide_eq_false q2
  by_cases q4 : 0 ≤ D0
  · have p4 : decide (0 ≤ D0) = true := decide_eq_true q4
    go_wp2_with (first
      | (go_at_call 18; (with_reducible refine (kA _).mono ?_); rintro e w1 ⟨rfl, rfl⟩)
      | (go_at_call 18; (with_reducible refine (kB _).mono ?_); rintro e w1 ⟨rfl, rfl⟩)
      | (go_at_call 18; (with_reducible refine (kD _).mono ?_); rintro e w1 ⟨rfl, rfl⟩))
    go_ret
    exact ⟨rfl, hb1⟩
  have p4 : decide (0 ≤ D0) = false := decide_eq_false q4
  cases C0
  case false =>
    go_wp2_with (first
      | (go_at_call 18; (with_reducible refine (kA _).mono ?_); rintro e w1 ⟨rfl, rfl⟩)
      | (go_at_call 18; (with_reducible refine (kB _).mono ?_); rintro e w1 ⟨rfl, rfl⟩)
      | (go_at_call 18; (with_reducible refine (kD _).mono ?_); rintro e w1 ⟨rfl, rfl⟩)
      | (go_at_call 19; (with_reducible refine (kC _).mono ?_); rintro e w1 ⟨rfl, rfl⟩))
    go_ret
    exact ⟨rfl, hb1⟩
  case true =>
  by_cases va : a = ⟨#[]⟩
  · subst va
    go_wp2_with (first
      | (go_at_call 18; (with_reducible refine (kA _).mono ?_); rintro e w1 ⟨rfl, rfl⟩)
      | (go_at_call 18; (with_reducible refine (kB _).mono ?_); rintro e w1 ⟨rfl, rfl⟩)
      | (go_at_call 18; (with_reducible refine (kD _).mono ?_); rintro e w1 ⟨rfl, rfl⟩)
      | (go_at_call 19; (with_reducible refine (kC _).mono ?_); rintro e w1 ⟨rfl, rfl⟩)
      | (go_at_call 20; (with_reducible refine (kE _).mono ?_); rintro e w1 ⟨rfl, rfl⟩))
    go_ret
    exact ⟨rfl, hb1⟩
  obtain ⟨ea1, ea2⟩ := str_ne va
  by_cases vb : b = ⟨#[]⟩
  · subst vb
    go_wp2_with (first
      | (go_at_call 18; (with_reducible refine (kA _).mono ?_); rintro e w1 ⟨rfl, rfl⟩)
      | (go_at_call 18; (with_reducible refine (kB _).mono ?_); rintro e w1 ⟨rfl, rfl⟩)
      | (go_at_call 18; (with_reducible refine (kD _).mono ?_); rintro e w1 ⟨rfl, rfl⟩)
      | (go_at_call 19; (with_reducible refine (kC _).mono ?_); rintro e w1 ⟨rfl, rfl⟩)
      | (go_at_call 20; (with_reducible refine (kE _).mono ?_); rintro e w1 ⟨rfl, rfl⟩))
    go_ret
    exact ⟨rfl, hb1⟩
  obtain ⟨eb1, eb2⟩ := str_ne vb
  by_cases vd : d = ⟨#[]⟩
  · subst vd
    go_wp2_with (first
      | (go_at_call 18; (with_reducible refine (kA _).mono ?_); rintro e w1 ⟨rfl, rfl⟩)
      | (go_at_call 18; (with_reducible refine (kB _).mono ?_); rintro e w1 ⟨rfl, rfl⟩)
      | (go_at_call 18; (with_reducible refine (kD _).mono ?_); rintro e w1 ⟨rfl, rfl⟩)
      | (go_at_call 19; (with_reducible refine (kC _).mono ?_); rintro e w1 ⟨rfl, rfl⟩)
      | (go_at_call 20; (with_reducible refine (kE _).mono ?_); rintro e w1 ⟨rfl, rfl⟩))
    go_ret
    exact ⟨rfl, hb1⟩
  obtain ⟨ed1, ed2⟩ := str_ne vd
  by_cases q5 : 0 ≤ E0
  · have p5 : decide (0 ≤ E0) = true := decide_eq_true q5
    go_wp2_with (first
      | (go_at_call 18; (with_reducible refine (kA _).mono ?_); rintro e w1 ⟨rfl, rfl⟩)
      | (go_at_call 18; (with_reducible refine (kB _).mono ?_); rintro e w1 ⟨rfl, rfl⟩)
      | (go_at_call 18; (with_reducible refine (kD _).mono ?_); rintro e w1 ⟨rfl, rfl⟩)
      | (go_at_call 19; (with_reducible refine (kC _).mono ?_); rintro e w1 ⟨rfl, rfl⟩)
      | (go_at_call 20; (with_reducible refine (kE _).mono ?_); rintro e w1 ⟨rfl, rfl⟩))
    go_ret
    exact ⟨rfl, hb1⟩
  have p5 : decide (0 ≤ E0) = false := decide_eq_false q5
  go_upto_region 7 with (first
      | (go_at_call 18; (with_reducible refine (kA _).mono ?_); rintro e w1 ⟨rfl, rfl⟩)
      | (go_at_call 18; (with_reducible refine (kB _).mono ?_); rintro e w1 ⟨rfl, rfl⟩)
      | (go_at_call 18; (with_reducible refine (kD _).mono ?_); rintro e w1 ⟨rfl, rfl⟩)
      | (go_at_call 19; (with_reducible refine (kC _).mono ?_); rintro e w1 ⟨rfl, rfl⟩)
      | (go_at_call 20; (with_reducible refine (kE _).mono ?_); rintro e w1 ⟨rfl, rfl⟩))
  clear kA kB kC kD kE p1 p2 p4 p5
  go_wp2_with fail
  go_loopw [11] (fun i wr => wr = w1 ∧ ∃ k : Nat, k ≤ e.size ∧ i = .int .i64 k ∧ Hid (∀ j, j < k → e.data.toList.getD j 0 ≠ 10)) (fun i _ => e.size - (intOf i).toNat)
  case atStart => exact ⟨rfl, 0, by omega, rfl, Lib.hid (fun j h => absurd h (by omega))⟩
  case round =>
    obtain ⟨rfl, k, hk, rfl, HA⟩ := hrel
    by_cases hlt : k < e.size
    case pos =>
      have hd3 : decide ((k : Int) < e.size) = true := decide_eq_true (by omega)
      have hi0 : (0 : Int) ≤ k := by omega
      have hi1 : (k : Int) < e.size := by omega
      have hcu : e.data.toList.getD k 0 = e[k]'hlt := by
        rw [List.getD_eq_getElem?_getD, List.getElem?_eq_getElem (by rw [hL]; exact hlt)]; rfl
      by_cases hc : ((e[k]'hlt).toNat : Int) = 10
      · have hc2 : (((e[k]'hlt).toNat : Int) == 10) = true := by rw [beq_iff_eq]; exact hc
        clear hc hcu
        go_wp2_with fail
        go_ret
        exact ⟨rfl, hb1⟩
      · have hc2 : (((e[k]'hlt).toNat : Int) == 10) = false := by rw [beq_eq_false_iff_ne]; exact hc
        have HA2 : Hid (∀ j, j < k + 1 → e.data.toList.getD j 0 ≠ 10) := Lib.hid (fun j hj => by
          rcases Nat.lt_or_ge j k with h' | h'
          · exact HA.out j h'
          · obtain rfl : j = k := by omega
            rw [hcu]; intro h; apply hc; rw [h]; rfl)
        clear hc hcu HA
        go_wp2_with fail
        exact ⟨⟨trivial, k + 1, by omega, rfl, HA2⟩, by (simp only [intOf]; omega)⟩
    case neg =>
      have hd3 : decide ((k : Int) < e.size) = false := decide_eq_false (by omega)
      obtain rfl : k = e.size := by omega
      have h10 : (10 : UInt8) ∉ e.data.toList := fun h => by
        obtain ⟨j, hj, hj2⟩ := List.getElem_of_mem h
        apply HA.out j (by rw [← hL]; exact hj)
        rw [List.getD_eq_getElem?_getD, List.getElem?_eq_getElem hj, hj2]; rfl
      obtain ⟨R, hR, hQ⟩ := line_quotes (hN1 (by omega)) (ne_list va) (hN0 (by omega) va) (hN2 (by omega)) (ne_list vb) (hN3 (by trivial)) (fun e0 => by have := (vlL_get HC0.out).1.1; rw [e0] at this; simp at this) (hN4 (by omega)) (ne_list vd) (by rw [HE0.out]; exact hN5 q5) h10
      have hS := quote_str a.data.toList b.data.toList c.data.toList d.data.toList e.data.toList
      rw [← hS] at hR
      have kR := fun W hs => quote_rows (w := W) hs hR hQ
      simp only [inM, inK, inT] at kR
      clear hR hQ hS h10 HA hN0 hN1 hN2 hN3 hN4 hN5 HC0 HE0
      generalize mkS (markL [44, 32] a.data.toList) = V1 at kR m1 s1
      generalize mkS (markL [44, 32, 61] b.data.toList) = V2 at kR m2 s2
      generalize mkS (markL [44, 32, 61] c.data.toList) = V3 at kR m3 s3
      generalize mkS (markL [44, 32, 61] d.data.toList) = V4 at kR m4 s4
      generalize mkS (markL [34, 92] e.data.toList) = V5 at kR m5 s5
      have kR2 := fun W => kR W (by simp only [ByteArray.size_append]; have : (⟨#[44]⟩ : ByteArray).size = 1 := rfl; have : (⟨#[61]⟩ : ByteArray).size = 1 := rfl; have : (⟨#[32]⟩ : ByteArray).size = 1 := rfl; have : (⟨#[61, 34]⟩ : ByteArray).size = 2 := rfl; have : (⟨#[34, 10]⟩ : ByteArray).size = 2 := rfl; omega)
      clear kR
      have z1 : ¬ 9223372036854775807 < V1.size + 1 := by omega
      have z2 : ¬ 9223372036854775807 < V1.size + 1 + V2.size := by omega
      have z3 : ¬ 9223372036854775807 < V1.size + 1 + V2.size + 1 := by omega
      have z4 : ¬ 9223372036854775807 < V1.size + 1 + V2.size + 1 + V3.size := by omega
      have z5 : ¬ 9223372036854775807 < V1.size + 1 + V2.size + 1 + V3.size + 1 := by omega
      have z6 : ¬ 9223372036854775807 < V1.size + 1 + V2.size + 1 + V3.size + 1 + V4.size := by omega
      have z7 : ¬ 9223372036854775807 < V1.size + 1 + V2.size + 1 + V3.size + 1 + V4.size + 2 := by omega
      have z8 : ¬ 9223372036854775807 < V1.size + 1 + V2.size + 1 + V3.size + 1 + V4.size + 2 + V5.size := by omega
      have z9 : ¬ 9223372036854775807 < V1.size + 1 + V2.size + 1 + V3.size + 1 + V4.size + 2 + V5.size + 2 := by omega
      go_wp2_with (first
        | (go_at_call 13; (with_reducible refine (m1 _).mono ?_); rintro e w2 ⟨rfl, hb2⟩)
        | (go_at_call 15; (with_reducible refine (m2 _).mono ?_); rintro e w3 ⟨rfl, hb3⟩)
        | (go_at_call 15; (with_reducible refine (m3 _).mono ?_); rintro e w4 ⟨rfl, hb4⟩)
        | (go_at_call 15; (with_reducible refine (m4 _).mono ?_); rintro e w5 ⟨rfl, hb5⟩)
        | (go_at_call 16; (with_reducible refine (m5 _).mono ?_); rintro e w6 ⟨rfl, hb6⟩)
        | (go_at_call 9; refine (kR2 _).mono ?_; rintro e w7 ⟨⟨bk, off, kk, tb, to_, tc, fb, fo, fc, x, y, rfl, ⟨l1, l2, l3⟩, ⟨c1, c3, c4, c7⟩, ⟨t0, t1⟩, f0, f1, f2, f3, f4⟩, hb7⟩))
      go_ret
      exact ⟨rfl, bl_alloc (bl_any (bl_any (bl_any (bl_any (bl_any (bl_any hb1 hb2) hb3) hb4) hb5) hb6) hb7) _⟩
end Go.Proofs.Ytdngieihlcknmaa
