/- The line format: what is written with signs behind backslashes is read as it was (no program in sight). -/
import Derived.Test.YtdngieihlcknmaaLineDfa
import Derived.Test.YtdngieihlcknmaaLineH
import Derived.Test.YtdngieihlcknmaaUtf
namespace Go.Proofs.Ytdngieihlcknmaa
set_option linter.unusedVariables false
set_option linter.unusedSimpArgs false
open Go.RowKit
set_option maxRecDepth 4000
section
variable {l : List UInt8}
theorem drop_bt {p : Nat} {c : UInt8} {r : List UInt8} (h : l.drop p = c :: r) : p < l.length ∧ bt l p = c.toNat ∧ l.getD p 0 = c := by
  have h1 : p < l.length := by
    rcases Nat.lt_or_ge p l.length with h' | h'
    · exact h'
    · rw [List.drop_of_length_le h'] at h; cases h
  have h2 : l[p]? = some c := by
    rw [List.drop_eq_getElem_cons h1] at h
    injection h with h3 _
    rw [List.getElem?_eq_getElem h1, h3]
  have h3 : l.getD p 0 = c := by rw [List.getD_eq_getElem?_getD, h2]; rfl
  exact ⟨h1, by unfold bt; rw [h3], h3⟩
theorem drop_app {p : Nat} {x r : List UInt8} (h : l.drop p = x ++ r) : l.drop (p + x.length) = r := by
  rw [← List.drop_drop, h, List.drop_left]
theorem drop_one {p : Nat} {c : UInt8} {r : List UInt8} (h : l.drop p = c :: r) : l.drop (p + 1) = r := drop_app (x := [c]) h
theorem drop_cut {p : Nat} {x r : List UInt8} (h : l.drop p = x ++ r) : cutL l p (p + x.length) = x := by
  unfold cutL; rw [h, Nat.add_sub_cancel_left, List.take_left]
theorem drop_isB {p : Nat} {c : UInt8} {r : List UInt8} (h : l.drop p = c :: r) (d : Int) : isB l p false d = ((c.toNat : Int) == d) := by
  obtain ⟨h1, h2, _⟩ := drop_bt h
  unfold isB pkB
  rw [h2]; simp [h1]
theorem drop_nil {p : Nat} (h : l.drop p = []) (hp : p ≤ l.length) : p = l.length := by
  have := congrArg List.length h
  rw [List.length_drop, List.length_nil] at this; omega
/-- One scalar's bytes. -/
def Scal (x : List UInt8) : Prop := x ≠ [] ∧ frontU x 0 = (x.length, true)
theorem bt_drop (p k : Nat) {x r : List UInt8} (h : l.drop p = x ++ r) (hk : k < x.length) : bt l (p + k) = bt x k := by
  have h2 : (l.drop p)[k]? = x[k]? := by rw [h, List.getElem?_append_left hk]
  rw [List.getElem?_drop] at h2
  unfold bt
  rw [List.getD_eq_getElem?_getD, List.getD_eq_getElem?_getD, h2]
theorem tailB_drop {p k : Nat} {x r : List UInt8} (h : l.drop p = x ++ r) (hk : k < x.length) : tailB l p k = tailB x 0 k := by
  have h0 := bt_drop p 0 h (by omega)
  have h1 := bt_drop p k h hk
  have hl : p + k < l.length := by
    have := congrArg List.length h
    rw [List.length_drop, List.length_append] at this; omega
  unfold tailB
  rw [Nat.add_zero] at h0
  rw [h0, h1, Nat.zero_add]
  simp [hl, hk]
theorem frGo_drop {p : Nat} {x r : List UInt8} (h : l.drop p = x ++ r) : ∀ f k, frGo x 0 x.length f k = (x.length, true) → frGo l p x.length f k = (x.length, true)
  | 0, k, hk => hk
  | f + 1, k, hk => by
    unfold frGo at hk ⊢
    by_cases hlt : k < x.length
    · rw [if_pos hlt] at hk ⊢
      rw [tailB_drop h hlt]
      by_cases ht : tailB x 0 k = true
      · rw [if_pos ht] at hk ⊢; exact frGo_drop h f _ hk
      · rw [if_neg ht] at hk; injection hk with _ e; cases e
    · rw [if_neg hlt]
theorem front_drop {p : Nat} {x r : List UInt8} (hx : Scal x) (h : l.drop p = x ++ r) : frontU l p = (x.length, true) := by
  obtain ⟨hne, hf⟩ := hx
  have hpos : 0 < x.length := List.length_pos_iff.2 hne
  have h0 := bt_drop p 0 h hpos
  rw [Nat.add_zero] at h0
  unfold frontU at hf ⊢
  rw [h0]
  split at hf
  · injection hf with _ e; cases e
  · rename_i hz
    rw [if_neg hz]
    have hn := frGo_le x 0 (uSize (bt x 0)) 4 1 (by omega) (by have := uSize_le (bt x 0); omega) (by omega)
    rw [hf] at hn
    have : x.length = uSize (bt x 0) := hn.2.2.2 rfl
    rw [← this] at hf ⊢
    exact frGo_drop h 4 1 hf
/-- The bytes behind a scalar's first one. -/
theorem scal_tail {x : List UInt8} (h : Scal x) (h2 : 2 ≤ x.length) : ∀ k, k < x.length → 128 ≤ bt x k := by
  obtain ⟨hne, hf⟩ := h
  unfold frontU at hf
  split at hf
  · injection hf with _ e; cases e
  rename_i hz
  have hn := frGo_le x 0 (uSize (bt x 0)) 4 1 (by omega) (by have := uSize_le (bt x 0); omega) (by omega)
  rw [hf] at hn
  have hu : x.length = uSize (bt x 0) := hn.2.2.2 rfl
  have hb0 : 128 ≤ bt x 0 := by
    rcases Int.lt_or_le (bt x 0) 128 with h' | h'
    · unfold uSize at hu; rw [if_pos h'] at hu; omega
    · exact h'
  have hgo : ∀ f k, 1 ≤ k → frGo x 0 (uSize (bt x 0)) f k = (x.length, true) → uSize (bt x 0) ≤ f + k → ∀ j, k ≤ j → j < x.length → 128 ≤ bt x j := by
    intro f
    induction f with
    | zero => intro k h1 _ hle j hj hj2; omega
    | succ f ih =>
      intro k h1 hk hle j hj hj2
      unfold frGo at hk
      by_cases hlt : k < uSize (bt x 0)
      · rw [if_pos hlt] at hk
        by_cases ht : tailB x 0 k = true
        · rw [if_pos ht] at hk
          rcases Nat.lt_or_ge k j with h' | h'
          · exact ih (k + 1) (by omega) hk (by omega) j h' hj2
          · obtain rfl : j = k := by omega
            have := ((tailB_iff x 0 j).1 ht).2.1
            rw [Nat.zero_add] at this
            have hlo : 128 ≤ kLo (bt x 0) j := by unfold kLo uLo; (repeat' split) <;> omega
            omega
        · rw [if_neg ht] at hk; injection hk with _ e; cases e
      · omega
  intro k hk
  rcases Nat.eq_zero_or_pos k with rfl | h'
  · exact hb0
  · exact hgo 4 1 (by omega) hf (by have := uSize_le (bt x 0); omega) k h' hk
/-- A text without a fault is a row of scalars. -/
theorem badGo_scal : ∀ f a, l.length ≤ f + a → badGo l f a = -1 → ∃ xs : List (List UInt8), l.drop a = xs.flatten ∧ ∀ x ∈ xs, Scal x
  | 0, a, hf, _ => ⟨[], by rw [List.drop_of_length_le (by omega)]; rfl, by simp⟩
  | f + 1, a, hf, h => by
    unfold badGo at h
    by_cases hlt : a < l.length
    · rw [if_pos hlt] at h
      have hfl := front_le l a hlt
      by_cases hq : (frontU l a).2 = true
      · rw [if_pos hq] at h
        have h1 := hfl.2.2 hq
        obtain ⟨xs, hx, hall⟩ := badGo_scal f (a + (frontU l a).1) (by omega) h
        have hlen : (cutL l a (a + (frontU l a).1)).length = (frontU l a).1 := by rw [cutL_len _ _ _ hfl.2.1]; omega
        have hd : l.drop a = cutL l a (a + (frontU l a).1) ++ l.drop (a + (frontU l a).1) := by
          unfold cutL; rw [Nat.add_sub_cancel_left, ← List.drop_drop, List.take_append_drop]
        refine ⟨cutL l a (a + (frontU l a).1) :: xs, by rw [List.flatten_cons, ← hx]; exact hd, fun x hx' => ?_⟩
        rcases List.mem_cons.1 hx' with rfl | hx'
        · refine ⟨fun e => by rw [e] at hlen; simp at hlen; omega, ?_⟩
          have e4 : (cutL l a (a + (frontU l a).1)).take 4 = cutL l a (a + (frontU l a).1) := List.take_of_length_le (by omega)
          rw [hlen]
          generalize hx0 : cutL l a (a + (frontU l a).1) = x at hlen hd
          have hb0 : bt l a = bt x 0 := by have := bt_drop a 0 hd (by omega); simpa using this
          have hu : (frontU l a).1 = uSize (bt l a) := by
            unfold frontU at hq hlen ⊢
            split at hq
            · cases hq
            · rename_i hz
              rw [if_neg hz]
              have hn := frGo_le l a (uSize (bt l a)) 4 1 (by omega) (by have := uSize_le (bt l a); omega) (by omega)
              exact hn.2.2.2 hq
          have hgo : ∀ f k, k ≤ x.length → (frGo l a x.length f k).2 = true → frGo x 0 x.length f k = frGo l a x.length f k := by
            intro f
            induction f with
            | zero => intro k _ _; rfl
            | succ f ih =>
              intro k hk hk2
              unfold frGo at hk2 ⊢
              by_cases hlt : k < x.length
              · rw [if_pos hlt] at hk2 ⊢
                rw [if_pos hlt]
                rw [tailB_drop hd hlt] at hk2 ⊢
                by_cases ht : tailB x 0 k = true
                · rw [if_pos ht] at hk2 ⊢; rw [if_pos ht]; exact ih _ (by omega) hk2
                · rw [if_neg ht] at hk2; cases hk2
              · rw [if_neg hlt, if_neg hlt]
          have hz : uSize (bt x 0) ≠ 0 := by rw [← hb0, ← hu]; omega
          have hfl2 : frontU l a = frGo l a x.length 4 1 := by
            unfold frontU; rw [hb0, if_neg hz, hlen, hu, hb0]
          have e1 : frontU x 0 = frGo x 0 x.length 4 1 := by
            unfold frontU; rw [if_neg hz, ← hb0, ← hu, hlen]
          rw [e1, hgo 4 1 (by omega) (by rw [← hfl2]; exact hq), ← hfl2]
          exact Prod.ext rfl hq
        · exact hall x hx'
      · rw [if_neg hq] at h; omega
    · exact ⟨[], by rw [List.drop_of_length_le (by omega)]; rfl, by simp⟩
theorem badU_scal {v : List UInt8} (h : badU v = -1) : ∃ xs : List (List UInt8), v = xs.flatten ∧ ∀ x ∈ xs, Scal x := by
  obtain ⟨xs, h1, h2⟩ := badGo_scal (l := v) v.length 0 (by omega) h
  exact ⟨xs, by rw [List.drop_zero] at h1; exact h1, h2⟩
theorem markL_app (m a b : List UInt8) : markL m (a ++ b) = markL m a ++ markL m b := by unfold markL; rw [List.flatMap_append]
theorem markL_one (m : List UInt8) (c : UInt8) : markL m [c] = if isMk m c then [92, c] else [c] := by
  unfold markL
  rw [List.flatMap_cons, List.flatMap_nil, List.append_nil]
theorem markL_far {m x : List UInt8} (hm : ∀ d ∈ m, d.toNat < 128) (hx : ∀ k, k < x.length → 128 ≤ bt x k) : markL m x = x := by
  unfold markL
  have : ∀ y : List UInt8, (∀ c ∈ y, 128 ≤ c.toNat) → (y.flatMap fun c => if isMk m c then [92, c] else [c]) = y := by
    intro y
    induction y with
    | nil => intro _; rfl
    | cons c y ih =>
      intro h
      rw [List.flatMap_cons, ih (fun d hd => h d (List.mem_cons_of_mem _ hd))]
      have : isMk m c = false := by
        unfold isMk
        rw [List.any_eq_false]
        intro d hd e
        have h1 := hm d hd
        have h2 := h c List.mem_cons_self
        simp at e; omega
      rw [this]; rfl
  apply this
  intro c hc
  obtain ⟨k, hk, rfl⟩ := List.getElem_of_mem hc
  have := hx k hk
  rw [bt_get hk] at this
  omega
/-- A name's piece: a byte from 32 to 126 but a backslash, or (wide) a scalar of more bytes. -/
def Chunk (wide : Bool) (x : List UInt8) : Prop := (∃ c : UInt8, x = [c] ∧ 32 ≤ c.toNat ∧ c.toNat < 127 ∧ c.toNat ≠ 92) ∨ (wide = true ∧ 2 ≤ x.length ∧ Scal x)
theorem isMk_iff {m : List UInt8} {c : UInt8} : isMk m c = (m.any fun d => (c.toNat : Int) == d.toNat) := rfl
theorem sgnS_chunks {m : List UInt8} (hm : ∀ d ∈ m, d.toNat < 128) (h32 : isMk m 32 = true) (wide : Bool) {y : UInt8} {r' : List UInt8} (hy : isMk m y = true) (hy2 : y.toNat ≠ 92) (hy3 : y.toNat < 128) :
    ∀ (xs : List (List UInt8)) (f p : Nat) (acc : List UInt8), (∀ x ∈ xs, Chunk wide x) → l.drop p = markL m xs.flatten ++ y :: r' → l.length < f + p → sgnS l m wide f p acc = (acc ++ xs.flatten, p + (markL m xs.flatten).length, false)
  | [], f, p, acc, _, h, hf => by
    have h : l.drop p = y :: r' := h
    obtain ⟨h1, h2, h3⟩ := drop_bt h
    obtain ⟨f, rfl⟩ : ∃ f', f = f' + 1 := ⟨f - 1, by omega⟩
    unfold sgnS
    rw [if_neg (by omega), h2, if_neg (by omega), if_neg (by omega), if_neg (by rw [isMk_iff] at hy; rw [hy]; simp)]
    simp [markL]
  | x :: xs, f, p, acc, hall, h, hf => by
    obtain ⟨f, rfl⟩ : ∃ f', f = f' + 1 := ⟨f - 1, by
      have : p < l.length := by
        rcases Nat.lt_or_ge p l.length with h' | h'
        · exact h'
        · rw [List.drop_of_length_le h'] at h; simp at h
      omega⟩
    rw [List.flatten_cons, markL_app, List.append_assoc] at h
    have hrest := fun z hz => hall z (List.mem_cons_of_mem _ hz)
    have hlp : p < l.length := by
      rcases Nat.lt_or_ge p l.length with h' | h'
      · exact h'
      · rw [List.drop_of_length_le h'] at h; simp at h
    have hlen : (markL m (x :: xs).flatten).length = (markL m x).length + (markL m xs.flatten).length := by rw [List.flatten_cons, markL_app, List.length_append]
    rw [hlen]
    rcases hall x List.mem_cons_self with ⟨c, rfl, c1, c2, c3⟩ | ⟨rfl, hx2, hx⟩
    · rw [markL_one] at h ⊢
      by_cases hq : isMk m c = true
      · rw [if_pos hq] at h ⊢
        obtain ⟨h1, h2, h3⟩ := drop_bt (l := l) (p := p) (c := 92) (r := c :: (markL m xs.flatten ++ y :: r')) h
        obtain ⟨g1, g2, g3⟩ := drop_bt (drop_one (l := l) (p := p) (c := 92) (r := c :: (markL m xs.flatten ++ y :: r')) h)
        have hes : escB l m p = true := by
          unfold escB; rw [g2]
          rw [isMk_iff] at hq
          simp only [hq, Bool.and_true, decide_eq_true_eq]; omega
        unfold sgnS
        rw [if_neg (by omega), h2, if_pos (by decide), if_pos hes, g3]
        rw [sgnS_chunks hm h32 wide hy hy2 hy3 xs f (p + 2) (acc ++ [c]) hrest (drop_app (x := [92, c]) h) (by omega)]
        simp; omega
      · have hq0 : isMk m c = false := by simpa using hq
        rw [if_neg hq] at h ⊢
        obtain ⟨h1, h2, h3⟩ := drop_bt (l := l) (p := p) (c := c) (r := markL m xs.flatten ++ y :: r') h
        have hc32 : c.toNat ≠ 32 := fun e => by
          have : c = 32 := UInt8.toNat_inj.1 e
          rw [this, h32] at hq0; cases hq0
        unfold sgnS
        rw [if_neg (by omega), h2, if_neg (by omega), if_neg (by omega), if_pos ⟨by omega, by omega, by rw [isMk_iff] at hq0; exact hq0⟩, h3]
        rw [sgnS_chunks hm h32 wide hy hy2 hy3 xs f (p + 1) (acc ++ [c]) hrest (drop_app (x := [c]) h) (by omega)]
        simp; omega
    · have htl := scal_tail hx hx2
      rw [markL_far hm htl] at h ⊢
      have hfr := front_drop hx h
      have hb := bt_drop p 0 h (by omega)
      have h128 := htl 0 (by omega)
      rw [Nat.add_zero] at hb
      unfold sgnS
      rw [if_neg (by omega), hb, if_neg (by omega), if_pos ⟨rfl, by omega⟩, hfr, if_pos rfl, drop_cut h]
      rw [sgnS_chunks hm h32 true hy hy2 hy3 xs f (p + x.length) (acc ++ x) hrest (drop_app h) (by omega)]
      simp; omega
theorem sgn_chunks {m : List UInt8} (hm : ∀ d ∈ m, d.toNat < 128) (h32 : isMk m 32 = true) (wide : Bool) {y : UInt8} {r' : List UInt8} (hy : isMk m y = true) (hy2 : y.toNat ≠ 92) (hy3 : y.toNat < 128) {xs : List (List UInt8)} {p : Nat} (hne : xs.flatten ≠ []) (hall : ∀ x ∈ xs, Chunk wide x) (h : l.drop p = markL m xs.flatten ++ y :: r') :
    sgn l m wide p false = (xs.flatten, p + (markL m xs.flatten).length, false) := by
  have hp : p < l.length := by
    rcases Nat.lt_or_ge p l.length with h' | h'
    · exact h'
    · rw [List.drop_of_length_le h'] at h; simp at h
  unfold sgn
  rw [sgnS_chunks hm h32 wide hy hy2 hy3 xs (l.length + 1) p [] hall h (by omega)]
  have hpos : 0 < (markL m xs.flatten).length := by
    cases hx : xs.flatten with
    | nil => exact absurd hx hne
    | cons c v =>
      rw [show c :: v = [c] ++ v from rfl, markL_app, List.length_append, markL_one]
      have : (if isMk m c = true then [92, c] else [c]).length ≠ 0 := by split <;> simp
      omega
  have hne2 : (p + (markL m xs.flatten).length == p) = false := by rw [beq_eq_false_iff_ne]; omega
  simp only [List.nil_append, Bool.false_or, hne2, Bool.false_eq_true, if_false]
/-- Of a field's text. -/
theorem inkS_scal {y : UInt8} {r' : List UInt8} (hy : y = 34) :
    ∀ (xs : List (List UInt8)) (f p : Nat) (acc : List UInt8), (∀ x ∈ xs, Scal x ∧ (10 : UInt8) ∉ x) → l.drop p = markL inT xs.flatten ++ y :: r' → l.length < f + p → inkS l 34 inT 110 f p acc = (acc ++ xs.flatten, p + (markL inT xs.flatten).length, false)
  | [], f, p, acc, _, h, hf => by
    have h : l.drop p = y :: r' := h
    subst hy
    obtain ⟨h1, h2, h3⟩ := drop_bt h
    obtain ⟨f, rfl⟩ : ∃ f', f = f' + 1 := ⟨f - 1, by omega⟩
    unfold inkS
    rw [if_neg (by omega), h2, if_pos (by decide)]
    simp [markL]
  | x :: xs, f, p, acc, hall, h, hf => by
    rw [List.flatten_cons, markL_app, List.append_assoc] at h
    have hrest := fun z hz => hall z (List.mem_cons_of_mem _ hz)
    have hlp : p < l.length := by
      rcases Nat.lt_or_ge p l.length with h' | h'
      · exact h'
      · rw [List.drop_of_length_le h'] at h; simp at h
    obtain ⟨f, rfl⟩ : ∃ f', f = f' + 1 := ⟨f - 1, by omega⟩
    have hlen : (markL inT (x :: xs).flatten).length = (markL inT x).length + (markL inT xs.flatten).length := by rw [List.flatten_cons, markL_app, List.length_append]
    rw [hlen]
    have hm : ∀ d ∈ inT, d.toNat < 128 := by decide
    obtain ⟨hx, h10⟩ := hall x List.mem_cons_self
    by_cases hx2 : 2 ≤ x.length
    · have htl := scal_tail hx hx2
      rw [markL_far hm htl] at h ⊢
      have hfr := front_drop hx h
      have hb := bt_drop p 0 h (by omega)
      have h128 := htl 0 (by omega)
      rw [Nat.add_zero] at hb
      unfold inkS
      rw [if_neg (by omega), hb, if_neg (by omega), if_neg (by omega), if_neg (by omega), hfr, if_pos rfl, drop_cut h]
      rw [inkS_scal hy xs f (p + x.length) (acc ++ x) hrest (drop_app h) (by omega)]
      simp; omega
    · obtain ⟨c, rfl⟩ : ∃ c, x = [c] := by
        have : x.length ≠ 0 := fun e => hx.1 (List.length_eq_zero_iff.1 e)
        exact List.length_eq_one_iff.1 (by omega)
      rw [markL_one] at h ⊢
      by_cases hq : isMk inT c = true
      · rw [if_pos hq] at h ⊢
        obtain ⟨h1, h2, h3⟩ := drop_bt (l := l) (p := p) (c := 92) (r := c :: (markL inT xs.flatten ++ y :: r')) h
        obtain ⟨g1, g2, g3⟩ := drop_bt (drop_one (l := l) (p := p) (c := 92) (r := c :: (markL inT xs.flatten ++ y :: r')) h)
        have hes : escB l inT p = true := by
          unfold escB; rw [g2]
          rw [isMk_iff] at hq
          simp only [hq, Bool.and_true, decide_eq_true_eq]; omega
        have hc110 : (c.toNat : Int) ≠ 110 := by
          intro e
          have : c = 110 := UInt8.toNat_inj.1 (by show c.toNat = 110; omega)
          rw [this] at hq; revert hq; decide
        unfold inkS
        rw [if_neg (by omega), h2, if_neg (by decide), if_neg (by decide), if_pos (by decide), if_pos hes, g2, if_neg hc110, g3]
        rw [inkS_scal hy xs f (p + 2) (acc ++ [c]) hrest (drop_app (x := [92, c]) h) (by omega)]
        simp; omega
      · have hq0 : isMk inT c = false := by simpa using hq
        rw [if_neg hq] at h ⊢
        obtain ⟨h1, h2, h3⟩ := drop_bt (l := l) (p := p) (c := c) (r := markL inT xs.flatten ++ y :: r') h
        have e34 : (c.toNat : Int) ≠ 34 := fun e => by
          have : c = 34 := UInt8.toNat_inj.1 (by show c.toNat = 34; omega)
          rw [this] at hq0; revert hq0; decide
        have e92 : (c.toNat : Int) ≠ 92 := fun e => by
          have : c = 92 := UInt8.toNat_inj.1 (by show c.toNat = 92; omega)
          rw [this] at hq0; revert hq0; decide
        have e10 : (c.toNat : Int) ≠ 10 := fun e => by
          have : c = 10 := UInt8.toNat_inj.1 (by show c.toNat = 10; omega)
          rw [this] at h10; exact h10 List.mem_cons_self
        have hfr := front_drop (l := l) (p := p) hx h
        unfold inkS
        rw [if_neg (by omega), h2, if_neg e34, if_neg e10, if_neg e92, hfr, if_pos rfl, drop_cut (x := [c]) h]
        rw [inkS_scal hy xs f (p + [c].length) (acc ++ [c]) hrest (drop_app (x := [c]) h) (by simp; omega)]
        simp; omega
end
end Go.Proofs.Ytdngieihlcknmaa
