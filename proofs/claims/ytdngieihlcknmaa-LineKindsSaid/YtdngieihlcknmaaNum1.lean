/- The reference's numbers: digits, and what reads them. -/
import Derived.Test.YtdngieihlcknmaaOpen
import Derived.Test.YtdngieihlcknmaaCore
import Derived.Test.YtdngieihlcknmaaAway
import Derived.Test.YtdngieihlcknmaaOwn
import Derived.Test.YtdngieihlcknmaaAppAny
import Derived.Laws.OwnMore
import Derived.Deep.QuietTactic
import Derived.BigQuiet
import Derived.OwnWalk
namespace Go.Proofs.Ytdngieihlcknmaa
set_option linter.unusedVariables false
set_option linter.unusedSimpArgs false
open Go.RowKit
def byteCell (c : UInt8) : List Value := [.int .u8 (c.toNat : Int)]
theorem cells_flat (l : List UInt8) : Lib.byteCells l = l.flatMap byteCell := by
  induction l with
  | nil => rfl
  | cons c l ih => rw [List.flatMap_cons, ← ih]; rfl
/-- A slice of bytes, as it is read. -/
def Bts (w : World) (A : Option Addr) (n : Nat) (l : List UInt8) : Prop := IsRows byteCell 1 w w.heap.size A n l
theorem Bts.at_ {w : World} {A : Option Addr} {n : Nat} {l : List UInt8} (h : Bts w A n l) {i : Nat} (hi : i < l.length) : ∃ b off, A = some ⟨b, off, none⟩ ∧ b < w.heap.size ∧ w.cell? ⟨b, off + i, none⟩ = some (.int .u8 ((l.getD i 0).toNat : Int)) := by
  have hx : l[i]? = some (l.getD i 0) := by rw [List.getD_eq_getElem?_getD, List.getElem?_eq_getElem hi]; rfl
  obtain ⟨b, off, e, hb, hc⟩ := h.2 (by have := h.1; omega)
  refine ⟨b, off, e, hb, ?_⟩
  have := hc i _ 0 _ hx rfl
  simpa using this
theorem Bts.below {w w' : World} {A : Option Addr} {n : Nat} {l : List UInt8} (h : Bts w A n l) (k : Below w.heap.size w w') : Bts w' A n l := (IsRows.below h k).more k.size
theorem Bts.len {w : World} {A : Option Addr} {n : Nat} {l : List UInt8} (h : Bts w A n l) : l.length = n := h.1
theorem own_form2 {w : World} {base : Nat} {e : TypeId} {size n : Nat} {v : Value} {xs : List Value} (h : w.ownsRow base e size v n xs) : ∃ A c, v = .slice A n c ∧ n ≤ c ∧ c ≤ maxLen := by
  obtain ⟨hl, ⟨rfl, rfl⟩ | ⟨g, cap, cur, rfl, hg, hh, h1, h2, r⟩⟩ := h
  · exact ⟨_, _, rfl, Nat.le_refl _, Nat.zero_le _⟩
  · exact ⟨_, _, rfl, h1, h2⟩
theorem own_bts {w : World} {base : Nat} {e : TypeId} {A : Option Addr} {c n : Nat} {l : List UInt8} (h : w.ownsRow base e 1 (.slice A n c) n (Lib.byteCells l)) (hn : l.length = n) : Bts w A n l := by
  rw [cells_flat] at h
  obtain ⟨hl, ⟨hv, rfl⟩ | ⟨g, cap, cur, hv, hg, hh, hnc, hcm, hcs, htk⟩⟩ := h
  · exact ⟨hn, fun h => absurd h (by omega)⟩
  · injection hv with hA _ _
    subst hA
    refine ⟨hn, fun _ => ⟨g, 0, rfl, ?_, fun i x j u hx hu => ?_⟩⟩
    · rcases Nat.lt_or_ge g w.heap.size with h' | h'
      · exact h'
      · rw [Array.getElem?_eq_none (by omega)] at hh; cases hh
    · have h1 := flatMap_at byteCell 1 (fun _ => rfl) l i x j u hx hu
      rw [← htk] at h1
      rw [cell_of_row w g (0 + (i * 1 + j)) cur e (0, 0) hh, Nat.zero_add, ← Array.getElem?_toList]
      rw [List.getElem?_take] at h1
      split at h1
      · exact h1
      · cases h1
/-- A slice of bytes that a call tells. -/
def BytesE (l : List UInt8) (e : Ending) (w : World) : Prop := ∃ A c, e = .returned (.slice A l.length c) ∧ l.length ≤ c ∧ c ≤ 9223372036854775807 ∧ Bts w A l.length l
theorem bytesE_mk {w : World} {base : Nat} {l : List UInt8} {v : Value} {n : Nat} (hn : l.length = n) (h : w.ownsRow base 5 1 v n (Lib.byteCells l)) : BytesE l (.returned v) w := by
  subst hn
  obtain ⟨A, c, rfl, h1, h2⟩ := own_form2 h
  exact ⟨A, c, rfl, h1, h2, own_bts h rfl⟩
/-- The digits of a number, the highest first, none of nought. -/
def digF : Nat → Nat → List UInt8
  | 0, _ => []
  | f + 1, n => if n = 0 then [] else digF f (n / 10) ++ [UInt8.ofNat (n % 10)]
def digL (n : Nat) : List UInt8 := digF 20 n
theorem digF_len : ∀ f n, (digF f n).length ≤ f
  | 0, n => by simp [digF]
  | f + 1, n => by
    unfold digF
    split
    · simp
    · have := digF_len f (n / 10)
      simp; omega
theorem digF_short : ∀ f n k, n < 10 ^ k → (digF f n).length ≤ k
  | 0, n, k, _ => by simp [digF]
  | f + 1, n, k, h => by
    unfold digF
    split
    · simp
    · rename_i hn
      cases k with
      | zero => simp at h; omega
      | succ k =>
        have := digF_short f (n / 10) k (by rw [Nat.pow_succ] at h; omega)
        simp; omega
theorem digF_le : ∀ f n, ∀ c ∈ digF f n, c.toNat ≤ 9
  | 0, n => by simp [digF]
  | f + 1, n => by
    unfold digF
    split
    · simp
    · intro c hc
      rcases List.mem_append.1 hc with hc | hc
      · exact digF_le f _ c hc
      · rw [List.mem_singleton.1 hc]
        have : (n % 10) < 256 := by omega
        rw [UInt8.toNat_ofNat_of_lt' (by show n % 10 < 256; omega)]
        omega
theorem digF_ne : ∀ f n, 0 < n → 0 < f → digF f n ≠ []
  | 0, n, _, h => by omega
  | f + 1, n, hn, _ => by
    unfold digF
    rw [if_neg (by omega)]
    simp
/-- The number of digits. -/
def numL (l : List UInt8) : Nat := l.foldl (fun n c => n * 10 + c.toNat) 0
theorem numL_snoc (l : List UInt8) (c : UInt8) : numL (l ++ [c]) = numL l * 10 + c.toNat := by unfold numL; rw [List.foldl_append]; rfl
theorem numL_digF : ∀ f n, n < 10 ^ f → numL (digF f n) = n
  | 0, n, h => by simp at h; subst h; rfl
  | f + 1, n, h => by
    unfold digF
    split
    · rename_i hn; subst hn; rfl
    · rw [numL_snoc, numL_digF f (n / 10) (by rw [Nat.pow_succ] at h; omega), UInt8.toNat_ofNat_of_lt' (by show n % 10 < 256; omega)]
      omega
theorem digF_head : ∀ f n, n < 10 ^ f → 0 < n → ∃ c l, digF f n = c :: l ∧ c ≠ 0
  | 0, n, h, h2 => by simp at h; omega
  | f + 1, n, h, h2 => by
    unfold digF
    rw [if_neg (by omega)]
    by_cases h10 : n / 10 = 0
    · refine ⟨UInt8.ofNat (n % 10), [], ?_, ?_⟩
      · rw [h10]
        cases f <;> simp [digF]
      · intro e
        have := congrArg UInt8.toNat e
        rw [UInt8.toNat_ofNat_of_lt' (by show n % 10 < 256; omega)] at this
        simp at this; omega
    · obtain ⟨c, l, hc, h0⟩ := digF_head f (n / 10) (by rw [Nat.pow_succ] at h; omega) (by omega)
      exact ⟨c, l ++ [UInt8.ofNat (n % 10)], by rw [hc]; rfl, h0⟩
set_option maxRecDepth 100000 in
set_option maxHeartbeats 3200000 in
theorem digits_any (n : Nat) (hn : n < 18446744073709551616) (w : World) :
    Calls Try.prog 74 #[.int .u64 (n : Int)] w fun e w' => BytesE (digL n) e w' ∧ Below w.heap.size w w' := by
  have H0 : Hid (∃ f, n < 10 ^ f ∧ f + ([] : List UInt8).length ≤ 20 ∧ digF f n ++ [] = digL n) := Lib.hid ⟨20, by omega, by simp, by rw [List.append_nil]; rfl⟩
  have hu : Try.prog.underlying 53 = some (.slice 5) := by kernel_rfl
  obtain ⟨i0, hinf, hz0, hz1, hz2⟩ := info_parts Try.infoByte
  go_enter Try.func74, Try.ntmps74
  go_wp2_with fail
  go_loopw [0, 3] (fun nv ov wr => ∃ (m : Nat) (acc : List UInt8), nv = .int .u64 m ∧ m ≤ n ∧ acc.length ≤ 20 ∧ wr.ownsRow w.heap.size 5 1 ov acc.length (Lib.byteCells acc) ∧ Below w.heap.size w wr ∧ Hid (∃ f, m < 10 ^ f ∧ f + acc.length ≤ 20 ∧ digF f m ++ acc = digL n)) (fun nv _ _ => (intOf nv).toNat)
  case atStart => exact ⟨n, [], rfl, Nat.le_refl _, by simp, World.ownsRow_nil _ _ _ _, Below.refl _ _, H0⟩
  case round =>
    clear H0
    obtain ⟨m, acc, rfl, hm, hacc, hO, hb, HF⟩ := hrel
    by_cases hm0 : m = 0
    · subst hm0
      have hR : acc = digL n := by
        obtain ⟨f, _, _, h⟩ := HF.out
        rw [← h]
        cases f <;> simp [digF]
      have HR := Lib.hid hR
      clear HF hR
      go_wp2_with fail
      go_ret
      exact ⟨by rw [← HR.out]; exact bytesE_mk rfl hO, hb⟩
    · have hd : decide ((0 : Int) < m) = true := decide_eq_true (by omega)
      have hd2 : decide (0 < m) = true := decide_eq_true (by omega)
      obtain ⟨A, c, rfl, hc1, hc2⟩ := own_form2 hO
      have hacc19 : acc.length ≤ 19 := by
        obtain ⟨f, h1, h2, h3⟩ := HF.out
        cases f with
        | zero => simp at h1; omega
        | succ f => omega
      have HF2 : Hid (∃ f, m / 10 < 10 ^ f ∧ f + (UInt8.ofNat (m % 10) :: acc).length ≤ 20 ∧ digF f (m / 10) ++ (UInt8.ofNat (m % 10) :: acc) = digL n) := Lib.hid (by
        obtain ⟨f, h1, h2, h3⟩ := HF.out
        cases f with
        | zero => simp at h1; omega
        | succ f =>
          refine ⟨f, by rw [Nat.pow_succ] at h1; omega, by simp; omega, ?_⟩
          rw [← h3]
          conv => rhs; unfold digF
          rw [if_neg hm0]; simp)
      have hx : (((UInt8.ofNat (m % 10)).toNat : Nat) : Int) = (m : Int) % 10 := by
        rw [UInt8.toNat_ofNat_of_lt' (by show m % 10 < 256; omega)]; omega
      have hw8 : IntKind.u8.wrap ((m : Int) % 10) = (m : Int) % 10 := by
        unfold IntKind.wrap; simp [IntKind.bits, IntKind.signed]; omega
      clear HF
      have hRd := Reads.of_own hO
      have hlit := World.ownsRow_lit (base := w.heap.size) (e := 5) (size := 1) wr #[.int .u8 ((m : Int) % 10)] 1 hb.size (by simp [maxLen]) rfl
      have hb2 := bl_alloc hb (.cells #[.int .u8 ((m : Int) % 10)] 5)
      have hbs := hb.size
      have HX := Lib.hid hx
      clear hx
      go_wp2_with (at_builtin; go_loud (refine wpList_append_any _ (by rfl) (.tmp 9) (.tmp 10) _ (by rfl) w.heap.size 5 i0 _ 1 1 hu hinf hz0 hz1 hz2 rfl (by omega) _ 1 _ (by rfl) hlit wr.heap.size A acc.length c (Lib.byteCells acc) (by rfl) (hRd.alloc (Nat.le_refl _) _) (by intro u hu; simp [Lib.byteCells] at hu; obtain ⟨x, _, rfl⟩ := hu; rfl) (by simp [maxLen]; omega) (by omega) hb2.size ?_); intro v3 w3 hown3 hg3 hat3; have hb3 := hb2.grown hg3 hb2.size (fun j e => (hlit.lt _ e).1))
      refine ⟨⟨m / 10, UInt8.ofNat (m % 10) :: acc, rfl, by omega, by simp; omega, ?_, hb3, HF2⟩, by (simp only [intOf]; omega)⟩
      have e1 : Lib.byteCells (UInt8.ofNat (m % 10) :: acc) = [.int .u8 ((m : Int) % 10)] ++ Lib.byteCells acc := by rw [← HX.out]; rfl
      rw [e1, List.length_cons, Nat.add_comm]
      exact hown3
theorem digL_ok {n : Nat} (hn : n < 100000000000000000000) : numL (digL n) = n := numL_digF 20 n (by omega)
/-- Noughts ahead are none: a slice that begins with another byte, or has none, stays. -/
def trimL (l : List UInt8) : List UInt8 := l.dropWhile (· == 0)
set_option maxHeartbeats 1600000 in
theorem trim_stays (A : Option Addr) (c : Nat) (l : List UInt8) (w : World) (h : Bts w A l.length l) (hl : l.length ≤ c) (hc : c ≤ 9223372036854775807) (h0 : ∀ x, l.head? = some x → x ≠ 0) :
    Calls Try.prog 72 #[.slice A l.length c] w fun e w' => e = .returned (.slice A l.length c) ∧ w' = w := by
  cases l with
  | nil =>
    go_enter Try.func72, Try.ntmps72
    go_wp2_with fail
    refine wp_loop_rounds 1 ?_
    rw [rounds_succ]
    go_wp2_with fail
    go_ret
    exact ⟨rfl, rfl⟩
  | cons x l =>
    have hx := h0 x rfl
    obtain ⟨b, off, rfl, hb, hc0⟩ := h.at_ (i := 0) (by simp)
    have hq : ((x.toNat : Int) == 0) = false := by
      rw [beq_eq_false_iff_ne]; intro e; apply hx; apply UInt8.toNat_inj.1; show x.toNat = 0; omega
    have hd : decide ((0 : Int) < ((x :: l).length : Nat)) = true := decide_eq_true (by simp)
    have hd2 : decide (0 < (x :: l).length) = true := decide_eq_true (by simp)
    have hi1 : (0 : Int) < ((x :: l).length : Nat) := by simp
    have c0 : w.cell? ⟨b, off, none⟩ = some (.int .u8 (x.toNat : Int)) := hc0
    generalize (x :: l).length = n at hd hd2 hi1 hl
    clear hc0 h h0
    go_enter Try.func72, Try.ntmps72
    go_wp2_with fail
    refine wp_loop_rounds 1 ?_
    rw [rounds_succ]
    go_wp2_with fail
    go_ret
    exact ⟨rfl, rfl⟩
set_option maxHeartbeats 1600000 in
/-- Of two numbers' digits the shorter is less. -/
theorem compare_short (A B : Option Addr) (n m c d : Nat) (w : World) (h : n < m) (hm : m ≤ 9223372036854775807) :
    Calls Try.prog 89 #[.slice A n c, .slice B m d] w fun e w' => e = .returned (.int .i64 (-1)) ∧ w' = w := by
  have h1 : ((n : Int) != m) = true := by rw [bne_iff_ne]; omega
  have h2 : decide ((n : Int) < m) = true := decide_eq_true (by omega)
  have h3 : decide (n < m) = true := decide_eq_true h
  go_enter Try.func89, Try.ntmps89
  go_wp2_with fail
  go_ret
  exact ⟨rfl, rfl⟩
theorem numL_take (l : List UInt8) (k : Nat) (h : k < l.length) : numL (l.take (k + 1)) = numL (l.take k) * 10 + (l.getD k 0).toNat := by
  rw [List.take_succ_eq_append_getElem h, numL_snoc, List.getD_eq_getElem?_getD, List.getElem?_eq_getElem h]; rfl
theorem numL_bd (l : List UInt8) (h9 : ∀ c ∈ l, c.toNat ≤ 9) : ∀ k, k ≤ l.length → numL (l.take k) < 10 ^ k
  | 0, _ => by simp [numL]
  | k + 1, hk => by
    have ih := numL_bd l h9 k (by omega)
    rw [numL_take l k (by omega), Nat.pow_succ]
    have : (l.getD k 0).toNat ≤ 9 := by
      rw [List.getD_eq_getElem?_getD, List.getElem?_eq_getElem (by omega)]
      exact h9 _ (List.getElem_mem _)
    omega
set_option maxRecDepth 100000 in
set_option maxHeartbeats 3200000 in
theorem within_short (A : Option Addr) (c : Nat) (l : List UInt8) (w : World) (h : Bts w A l.length l) (hl : l.length ≤ 18) (h9 : ∀ x ∈ l, x.toNat ≤ 9) :
    Calls Try.prog 73 #[.slice A l.length c] w fun e w' => e = .returned (.tuple #[.int .i64 (numL l : Int), .bool true]) ∧ Below w.heap.size w w' := by
  have kD := fun W => digits_any 9223372036854775807 (by decide) W
  have hdl : (digL 9223372036854775807).length = 19 := by decide +kernel
  obtain ⟨NL, hNL⟩ : ∃ NL, numL l = NL := ⟨_, rfl⟩
  rw [hNL]
  have HN := Lib.hid hNL
  clear hNL
  go_enter Try.func73, Try.ntmps73
  go_wp2_with (first
    | (go_at_call 74; refine (kD _).mono ?_; rintro e w1 ⟨⟨B, d, rfl, _, _, _⟩, hb1⟩; rw [hdl])
    | (go_at_call 89; refine (compare_short _ _ _ _ _ _ _ (by omega) (by omega)).mono ?_; rintro e w2 ⟨rfl, hw2⟩; rw [hw2]; clear hw2 w2))
  have h1 := h.below hb1
  clear kD hdl
  go_loopw [4, 5] (fun nv iv wr => wr = w1 ∧ ∃ k : Nat, k ≤ l.length ∧ iv = .int .i64 k ∧ nv = .int .i64 (numL (l.take k) : Int)) (fun _ iv _ => l.length - (intOf iv).toNat)
  case atStart => exact ⟨rfl, 0, by omega, rfl, rfl⟩
  case round =>
    obtain ⟨rfl, k, hk, rfl, rfl⟩ := hrel
    by_cases hlt : k < l.length
    · have hd : decide ((k : Int) < l.length) = true := decide_eq_true (by omega)
      have hi0 : (0 : Int) ≤ k := by omega
      have hi1 : (k : Int) < l.length := by omega
      obtain ⟨b, off, rfl, hbl, hc0⟩ := h1.at_ hlt
      have HT := Lib.hid (numL_take l k hlt)
      have hbd := numL_bd l h9 k (by omega)
      have hp : 10 ^ k ≤ 10 ^ 17 := Nat.pow_le_pow_right (by omega) (by omega)
      have hbd2 : numL (l.take k) < 10 ^ 17 := Nat.lt_of_lt_of_le hbd hp
      have hg9 : (l.getD k 0).toNat ≤ 9 := by
        rw [List.getD_eq_getElem?_getD, List.getElem?_eq_getElem hlt]
        exact h9 _ (List.getElem_mem _)
      generalize hM : numL (l.take k) = M at HT hbd2
      generalize (l.getD k 0).toNat = D at HT hg9 hc0
      clear hM hbd hp
      have hz : M < 100000000000000000 := by simpa using hbd2
      clear hbd2
      go_wp2_with fail
      refine ⟨⟨trivial, k + 1, by omega, rfl, ?_⟩, by (simp only [intOf]; omega)⟩
      rw [HT.out]
      exact congrArg (Value.int .i64) (by omega)
    · have hd : decide ((k : Int) < l.length) = false := decide_eq_false (by omega)
      obtain rfl : k = l.length := by omega
      rw [List.take_length, HN.out]
      go_wp2_with fail
      go_ret2
      exact ⟨rfl, hb1⟩
end Go.Proofs.Ytdngieihlcknmaa
