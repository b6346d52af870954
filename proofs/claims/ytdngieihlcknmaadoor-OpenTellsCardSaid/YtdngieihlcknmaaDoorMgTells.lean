/- A text's rest behind a place; scalars (no program in sight). The open format: what is quoted is read as it was (no program in sight). The open format's machine of states: what the rows' functions answer is its verdict (no program in sight). The open format's machine of states: a line, a text; ends that close each state (no program in sight). The open format: a text's rows stand where they say (no program in sight). The walk of OpenRows. The walk of OpenTells. -/
import Derived.Test.YtdngieihlcknmaaDoorLineDfa
import Derived.Test.YtdngieihlcknmaaDoorUtf
import Derived.Test.YtdngieihlcknmaaDoorOpenH
import Derived.Test.YtdngieihlcknmaaDoorOpenF
import Derived.Test.YtdngieihlcknmaaDoorOpenDef
import Derived.Test.YtdngieihlcknmaaDoorO17a
import Derived.Test.YtdngieihlcknmaaDoorSameR
import Derived.Test.YtdngieihlcknmaaDoorMgRef
namespace Go.Proofs.YtdngieihlcknmaaDoor
set_option linter.unusedVariables false
set_option linter.unusedSimpArgs false
open Go.RowKit
set_option maxRecDepth 4000
section
variable {l : List UInt8}
theorem drop_bt {p : Nat} {c : UInt8} {r : List UInt8} (h : l.drop p = c :: r) : p < l.length ∧ bt l p = c.toNat ∧ l.getD p 0 = c := by
  have h1 : p < l.length := by
    rcases Nat.lt_or_ge p l.length with h' | h'
    · exact h'
    · rw [List.drop_of_length_le h'] at h; cases h
  have h2 : l[p]? = some c := by
    rw [List.drop_eq_getElem_cons h1] at h
    injection h with h3 _
    rw [List.getElem?_eq_getElem h1, h3]
  have h3 : l.getD p 0 = c := by rw [List.getD_eq_getElem?_getD, h2]; rfl
  exact ⟨h1, by unfold bt; rw [h3], h3⟩
theorem drop_app {p : Nat} {x r : List UInt8} (h : l.drop p = x ++ r) : l.drop (p + x.length) = r := by
  rw [← List.drop_drop, h, List.drop_left]
theorem drop_one {p : Nat} {c : UInt8} {r : List UInt8} (h : l.drop p = c :: r) : l.drop (p + 1) = r := drop_app (x := [c]) h
theorem drop_cut {p : Nat} {x r : List UInt8} (h : l.drop p = x ++ r) : cutL l p (p + x.length) = x := by
  unfold cutL; rw [h, Nat.add_sub_cancel_left, List.take_left]
theorem drop_isB {p : Nat} {c : UInt8} {r : List UInt8} (h : l.drop p = c :: r) (d : Int) : isB l p false d = ((c.toNat : Int) == d) := by
  obtain ⟨h1, h2, _⟩ := drop_bt h
  unfold isB pkB
  rw [h2]; simp [h1]
theorem drop_nil {p : Nat} (h : l.drop p = []) (hp : p ≤ l.length) : p = l.length := by
  have := congrArg List.length h
  rw [List.length_drop, List.length_nil] at this; omega
/-- One scalar's bytes. -/
def Scal (x : List UInt8) : Prop := x ≠ [] ∧ frontU x 0 = (x.length, true)
theorem bt_drop (p k : Nat) {x r : List UInt8} (h : l.drop p = x ++ r) (hk : k < x.length) : bt l (p + k) = bt x k := by
  have h2 : (l.drop p)[k]? = x[k]? := by rw [h, List.getElem?_append_left hk]
  rw [List.getElem?_drop] at h2
  unfold bt
  rw [List.getD_eq_getElem?_getD, List.getD_eq_getElem?_getD, h2]
theorem tailB_drop {p k : Nat} {x r : List UInt8} (h : l.drop p = x ++ r) (hk : k < x.length) : tailB l p k = tailB x 0 k := by
  have h0 := bt_drop p 0 h (by omega)
  have h1 := bt_drop p k h hk
  have hl : p + k < l.length := by
    have := congrArg List.length h
    rw [List.length_drop, List.length_append] at this; omega
  unfold tailB
  rw [Nat.add_zero] at h0
  rw [h0, h1, Nat.zero_add]
  simp [hl, hk]
theorem frGo_drop {p : Nat} {x r : List UInt8} (h : l.drop p = x ++ r) : ∀ f k, frGo x 0 x.length f k = (x.length, true) → frGo l p x.length f k = (x.length, true)
  | 0, k, hk => hk
  | f + 1, k, hk => by
    unfold frGo at hk ⊢
    by_cases hlt : k < x.length
    · rw [if_pos hlt] at hk ⊢
      rw [tailB_drop h hlt]
      by_cases ht : tailB x 0 k = true
      · rw [if_pos ht] at hk ⊢; exact frGo_drop h f _ hk
      · rw [if_neg ht] at hk; injection hk with _ e; cases e
    · rw [if_neg hlt]
theorem front_drop {p : Nat} {x r : List UInt8} (hx : Scal x) (h : l.drop p = x ++ r) : frontU l p = (x.length, true) := by
  obtain ⟨hne, hf⟩ := hx
  have hpos : 0 < x.length := List.length_pos_iff.2 hne
  have h0 := bt_drop p 0 h hpos
  rw [Nat.add_zero] at h0
  unfold frontU at hf ⊢
  rw [h0]
  split at hf
  · injection hf with _ e; cases e
  · rename_i hz
    rw [if_neg hz]
    have hn := frGo_le x 0 (uSize (bt x 0)) 4 1 (by omega) (by have := uSize_le (bt x 0); omega) (by omega)
    rw [hf] at hn
    have : x.length = uSize (bt x 0) := hn.2.2.2 rfl
    rw [← this] at hf ⊢
    exact frGo_drop h 4 1 hf
/-- The bytes behind a scalar's first one. -/
theorem scal_tail {x : List UInt8} (h : Scal x) (h2 : 2 ≤ x.length) : ∀ k, k < x.length → 128 ≤ bt x k := by
  obtain ⟨hne, hf⟩ := h
  unfold frontU at hf
  split at hf
  · injection hf with _ e; cases e
  rename_i hz
  have hn := frGo_le x 0 (uSize (bt x 0)) 4 1 (by omega) (by have := uSize_le (bt x 0); omega) (by omega)
  rw [hf] at hn
  have hu : x.length = uSize (bt x 0) := hn.2.2.2 rfl
  have hb0 : 128 ≤ bt x 0 := by
    rcases Int.lt_or_le (bt x 0) 128 with h' | h'
    · unfold uSize at hu; rw [if_pos h'] at hu; omega
    · exact h'
  have hgo : ∀ f k, 1 ≤ k → frGo x 0 (uSize (bt x 0)) f k = (x.length, true) → uSize (bt x 0) ≤ f + k → ∀ j, k ≤ j → j < x.length → 128 ≤ bt x j := by
    intro f
    induction f with
    | zero => intro k h1 _ hle j hj hj2; omega
    | succ f ih =>
      intro k h1 hk hle j hj hj2
      unfold frGo at hk
      by_cases hlt : k < uSize (bt x 0)
      · rw [if_pos hlt] at hk
        by_cases ht : tailB x 0 k = true
        · rw [if_pos ht] at hk
          rcases Nat.lt_or_ge k j with h' | h'
          · exact ih (k + 1) (by omega) hk (by omega) j h' hj2
          · obtain rfl : j = k := by omega
            have := ((tailB_iff x 0 j).1 ht).2.1
            rw [Nat.zero_add] at this
            have hlo : 128 ≤ kLo (bt x 0) j := by unfold kLo uLo; (repeat' split) <;> omega
            omega
        · rw [if_neg ht] at hk; injection hk with _ e; cases e
      · omega
  intro k hk
  rcases Nat.eq_zero_or_pos k with rfl | h'
  · exact hb0
  · exact hgo 4 1 (by omega) hf (by have := uSize_le (bt x 0); omega) k h' hk
/-- A text without a fault is a row of scalars. -/
theorem badGo_scal : ∀ f a, l.length ≤ f + a → badGo l f a = -1 → ∃ xs : List (List UInt8), l.drop a = xs.flatten ∧ ∀ x ∈ xs, Scal x
  | 0, a, hf, _ => ⟨[], by rw [List.drop_of_length_le (by omega)]; rfl, by simp⟩
  | f + 1, a, hf, h => by
    unfold badGo at h
    by_cases hlt : a < l.length
    · rw [if_pos hlt] at h
      have hfl := front_le l a hlt
      by_cases hq : (frontU l a).2 = true
      · rw [if_pos hq] at h
        have h1 := hfl.2.2 hq
        obtain ⟨xs, hx, hall⟩ := badGo_scal f (a + (frontU l a).1) (by omega) h
        have hlen : (cutL l a (a + (frontU l a).1)).length = (frontU l a).1 := by rw [cutL_len _ _ _ hfl.2.1]; omega
        have hd : l.drop a = cutL l a (a + (frontU l a).1) ++ l.drop (a + (frontU l a).1) := by
          unfold cutL; rw [Nat.add_sub_cancel_left, ← List.drop_drop, List.take_append_drop]
        refine ⟨cutL l a (a + (frontU l a).1) :: xs, by rw [List.flatten_cons, ← hx]; exact hd, fun x hx' => ?_⟩
        rcases List.mem_cons.1 hx' with rfl | hx'
        · refine ⟨fun e => by rw [e] at hlen; simp at hlen; omega, ?_⟩
          have e4 : (cutL l a (a + (frontU l a).1)).take 4 = cutL l a (a + (frontU l a).1) := List.take_of_length_le (by omega)
          rw [hlen]
          generalize hx0 : cutL l a (a + (frontU l a).1) = x at hlen hd
          have hb0 : bt l a = bt x 0 := by have := bt_drop a 0 hd (by omega); simpa using this
          have hu : (frontU l a).1 = uSize (bt l a) := by
            unfold frontU at hq hlen ⊢
            split at hq
            · cases hq
            · rename_i hz
              rw [if_neg hz]
              have hn := frGo_le l a (uSize (bt l a)) 4 1 (by omega) (by have := uSize_le (bt l a); omega) (by omega)
              exact hn.2.2.2 hq
          have hgo : ∀ f k, k ≤ x.length → (frGo l a x.length f k).2 = true → frGo x 0 x.length f k = frGo l a x.length f k := by
            intro f
            induction f with
            | zero => intro k _ _; rfl
            | succ f ih =>
              intro k hk hk2
              unfold frGo at hk2 ⊢
              by_cases hlt : k < x.length
              · rw [if_pos hlt] at hk2 ⊢
                rw [if_pos hlt]
                rw [tailB_drop hd hlt] at hk2 ⊢
                by_cases ht : tailB x 0 k = true
                · rw [if_pos ht] at hk2 ⊢; rw [if_pos ht]; exact ih _ (by omega) hk2
                · rw [if_neg ht] at hk2; cases hk2
              · rw [if_neg hlt, if_neg hlt]
          have hz : uSize (bt x 0) ≠ 0 := by rw [← hb0, ← hu]; omega
          have hfl2 : frontU l a = frGo l a x.length 4 1 := by
            unfold frontU; rw [hb0, if_neg hz, hlen, hu, hb0]
          have e1 : frontU x 0 = frGo x 0 x.length 4 1 := by
            unfold frontU; rw [if_neg hz, ← hb0, ← hu, hlen]
          rw [e1, hgo 4 1 (by omega) (by rw [← hfl2]; exact hq), ← hfl2]
          exact Prod.ext rfl hq
        · exact hall x hx'
      · rw [if_neg hq] at h; omega
    · exact ⟨[], by rw [List.drop_of_length_le (by omega)]; rfl, by simp⟩
theorem badU_scal {v : List UInt8} (h : badU v = -1) : ∃ xs : List (List UInt8), v = xs.flatten ∧ ∀ x ∈ xs, Scal x := by
  obtain ⟨xs, h1, h2⟩ := badGo_scal (l := v) v.length 0 (by omega) h
  exact ⟨xs, by rw [List.drop_zero] at h1; exact h1, h2⟩
end
theorem scal_one {c : UInt8} (h : Scal [c]) : c.toNat < 128 := by
  have hf := h.2
  unfold frontU at hf
  have hb : bt [c] 0 = c.toNat := rfl
  split at hf
  · injection hf with _ e; cases e
  · rename_i hz
    have hn := frGo_le [c] 0 (uSize (bt [c] 0)) 4 1 (by omega) (by have := uSize_le (bt [c] 0); omega) (by simp)
    rw [hf] at hn
    have hu : [c].length = uSize (bt [c] 0) := hn.2.2.2 rfl
    rw [hb] at hu
    unfold uSize at hu
    split at hu
    · omega
    · (repeat' split at hu) <;> simp at hu
theorem isB_no2 {l : List UInt8} {p : Nat} {c : UInt8} {r : List UInt8} (h : l.drop p = c :: r) {d : Int} (hd : (c.toNat : Int) ≠ d) : isB l p false d = false := by
  rw [drop_isB h, beq_eq_false_iff_ne]; exact hd
theorem isB_yes2 {l : List UInt8} {p : Nat} {c : UInt8} {r : List UInt8} (h : l.drop p = c :: r) {d : Int} (hd : (c.toNat : Int) = d) : isB l p false d = true := by
  rw [drop_isB h, beq_iff_eq]; exact hd
theorem word_one {l : List UInt8} {p : Nat} {c : UInt8} {r : List UInt8} (h : l.drop p = c :: r) : wordS l [c] p false = (p + 1, false) := by
  rw [word1, isB_yes2 h rfl, if_pos rfl]
theorem word_app {l : List UInt8} : ∀ (w : List UInt8) (p : Nat) (r : List UInt8), l.drop p = w ++ r → wordS l w p false = (p + w.length, false)
  | [], p, r, _ => by simp [wordS]
  | c :: cs, p, r, h => by
    have h : l.drop p = c :: (cs ++ r) := h
    rw [word_head (isB_yes2 h rfl), word_app cs (p + 1) r (drop_one h), List.length_cons, Nat.add_assoc, Nat.add_comm 1]
set_option maxRecDepth 4000
/-- A byte as it is written, with quotes or without. -/
def e17 (q : Bool) (c : UInt8) : List UInt8 := if c = 92 then [92, 92] else if c = 10 then [92, 110] else if q = true ∧ c = 34 then [92, 34] else [c]
def escQ (q : Bool) (v : List UInt8) : List UInt8 := v.flatMap (e17 q)
theorem helpL_eq (v : List UInt8) : helpL v = escQ false v := by
  unfold helpL escL escQ
  rw [List.flatMap_assoc]
  congr 1
  funext c
  unfold e17
  by_cases h1 : c = 92
  · subst h1; rfl
  · by_cases h2 : c = 10
    · subst h2; rfl
    · simp [h1, h2]
theorem oquoteL_eq (v : List UInt8) : oquoteL v = escQ true v := by
  unfold oquoteL
  rw [helpL_eq]
  unfold escL escQ
  rw [List.flatMap_assoc]
  congr 1
  funext c
  unfold e17
  by_cases h1 : c = 92
  · subst h1; rfl
  · by_cases h2 : c = 10
    · subst h2; rfl
    · by_cases h3 : c = 34
      · subst h3; rfl
      · simp [h1, h2, h3]
theorem escQ_app (q : Bool) (a b : List UInt8) : escQ q (a ++ b) = escQ q a ++ escQ q b := by unfold escQ; rw [List.flatMap_append]
theorem escQ_one (q : Bool) (c : UInt8) : escQ q [c] = e17 q c := by simp [escQ]
theorem escQ_far {q : Bool} {x : List UInt8} (hx : ∀ k, k < x.length → 128 ≤ bt x k) : escQ q x = x := by
  have : ∀ y : List UInt8, (∀ c ∈ y, 128 ≤ c.toNat) → y.flatMap (e17 q) = y := by
    intro y
    induction y with
    | nil => intro _; rfl
    | cons c y ih =>
      intro h
      rw [List.flatMap_cons, ih (fun d hd => h d (List.mem_cons_of_mem _ hd))]
      have hc := h c List.mem_cons_self
      have e : ∀ d : UInt8, d.toNat < 128 → c ≠ d := fun d hd he => by rw [he] at hc; omega
      unfold e17
      rw [if_neg (e 92 (by decide)), if_neg (e 10 (by decide)), if_neg (fun h => e 34 (by decide) h.2)]
      rfl
  apply this
  intro c hc
  obtain ⟨k, hk, rfl⟩ := List.getElem_of_mem hc
  have := hx k hk
  rw [bt_get hk] at this
  omega
section
variable {l : List UInt8}
/-- The two readers of scalars: a label's value, a help. -/
def InkK (q : Bool) (y : UInt8) (m : List UInt8) : Prop := (q = true ∧ y = 34 ∧ m = inV) ∨ (q = false ∧ y = 10 ∧ m = inH)
theorem inkS_esc {q : Bool} {y : UInt8} {m r' : List UInt8} (hy : InkK q y m) :
    ∀ (xs : List (List UInt8)) (f p : Nat) (acc : List UInt8), (∀ x ∈ xs, Scal x) → l.drop p = escQ q xs.flatten ++ y :: r' → l.length < f + p → inkS l y.toNat m 110 f p acc = (acc ++ xs.flatten, p + (escQ q xs.flatten).length, false)
  | [], f, p, acc, _, h, hf => by
    have h : l.drop p = y :: r' := h
    obtain ⟨h1, h2, h3⟩ := drop_bt h
    obtain ⟨f, rfl⟩ : ∃ f', f = f' + 1 := ⟨f - 1, by omega⟩
    unfold inkS
    rw [if_neg (by omega), h2, if_pos rfl]
    simp [escQ]
  | x :: xs, f, p, acc, hall, h, hf => by
    rw [List.flatten_cons, escQ_app, List.append_assoc] at h
    have hrest := fun z hz => hall z (List.mem_cons_of_mem _ hz)
    have hlp : p < l.length := by
      rcases Nat.lt_or_ge p l.length with h' | h'
      · exact h'
      · rw [List.drop_of_length_le h'] at h; simp at h
    obtain ⟨f, rfl⟩ : ∃ f', f = f' + 1 := ⟨f - 1, by omega⟩
    have hlen : (escQ q (x :: xs).flatten).length = (escQ q x).length + (escQ q xs.flatten).length := by rw [List.flatten_cons, escQ_app, List.length_append]
    rw [hlen]
    have hy1 : y = 34 ∨ y = 10 := by rcases hy with ⟨_, h, _⟩ | ⟨_, h, _⟩ <;> simp [h]
    have hy2 : (92 : Int) ≠ y.toNat := by rcases hy1 with rfl | rfl <;> decide
    have hyl : (y.toNat : Int) < 128 := by rcases hy1 with rfl | rfl <;> decide
    have hx := hall x List.mem_cons_self
    by_cases hx2 : 2 ≤ x.length
    · have htl := scal_tail hx hx2
      rw [escQ_far htl] at h ⊢
      have hfr := front_drop hx h
      have hb := bt_drop p 0 h (by omega)
      have h128 := htl 0 (by omega)
      rw [Nat.add_zero] at hb
      unfold inkS
      rw [if_neg (by omega), hb, if_neg (by omega), if_neg (by omega), if_neg (by omega), hfr, if_pos rfl, drop_cut h]
      rw [inkS_esc hy xs f (p + x.length) (acc ++ x) hrest (drop_app h) (by omega)]
      simp; omega
    · obtain ⟨c, rfl⟩ : ∃ c, x = [c] := by
        have : x.length ≠ 0 := fun e => hx.1 (List.length_eq_zero_iff.1 e)
        exact List.length_eq_one_iff.1 (by omega)
      rw [escQ_one] at h ⊢
      -- a byte behind a backslash
      have two : ∀ d : UInt8, e17 q c = [92, d] → escB l m p = ((m.any fun k => (d.toNat : Int) == k.toNat)) ∧ bt l p = 92 ∧ bt l (p + 1) = d.toNat ∧ l.getD (p + 1) 0 = d ∧ l.drop (p + 2) = escQ q xs.flatten ++ y :: r' := fun d hd => by
        rw [hd] at h
        obtain ⟨h1, h2, h3⟩ := drop_bt (l := l) (p := p) (c := 92) (r := d :: (escQ q xs.flatten ++ y :: r')) h
        obtain ⟨g1, g2, g3⟩ := drop_bt (drop_one (l := l) (p := p) (c := 92) (r := d :: (escQ q xs.flatten ++ y :: r')) h)
        refine ⟨?_, h2, g2, g3, drop_app (x := [92, d]) h⟩
        unfold escB
        rw [g2]; simp [g1]
      by_cases h92 : c = 92
      · subst h92
        have e : e17 q 92 = [92, 92] := rfl
        obtain ⟨t1, t2, t3, t4, t5⟩ := two 92 e
        rw [e]
        have t6 : escB l m p = true := by rw [t1]; rcases hy with ⟨_, _, rfl⟩ | ⟨_, _, rfl⟩ <;> decide
        unfold inkS
        rw [if_neg (by omega), t2, if_neg hy2, if_neg (by decide), if_pos rfl, if_pos t6, t3, if_neg (by decide), t4]
        rw [inkS_esc hy xs f (p + 2) (acc ++ [92]) hrest t5 (by omega)]
        simp; omega
      by_cases h10 : c = 10
      · subst h10
        have e : e17 q 10 = [92, 110] := rfl
        obtain ⟨t1, t2, t3, t4, t5⟩ := two 110 e
        rw [e]
        have t6 : escB l m p = true := by rw [t1]; rcases hy with ⟨_, _, rfl⟩ | ⟨_, _, rfl⟩ <;> decide
        unfold inkS
        rw [if_neg (by omega), t2, if_neg hy2, if_neg (by decide), if_pos rfl, if_pos t6, t3, if_pos (by decide)]
        rw [inkS_esc hy xs f (p + 2) (acc ++ [10]) hrest t5 (by omega)]
        simp; omega
      by_cases h34 : q = true ∧ c = 34
      · obtain ⟨rfl, rfl⟩ := h34
        have e : e17 true 34 = [92, 34] := rfl
        obtain ⟨t1, t2, t3, t4, t5⟩ := two 34 e
        rw [e]
        have t6 : escB l m p = true := by rw [t1]; rcases hy with ⟨_, _, rfl⟩ | ⟨h, _, _⟩; · decide
                                          · cases h
        unfold inkS
        rw [if_neg (by omega), t2, if_neg hy2, if_neg (by decide), if_pos rfl, if_pos t6, t3, if_neg (by decide), t4]
        rw [inkS_esc hy xs f (p + 2) (acc ++ [34]) hrest t5 (by omega)]
        simp; omega
      have e : e17 q c = [c] := by unfold e17; rw [if_neg h92, if_neg h10, if_neg h34]
      rw [e] at h ⊢
      obtain ⟨h1, h2, h3⟩ := drop_bt (l := l) (p := p) (c := c) (r := escQ q xs.flatten ++ y :: r') h
      have nn : ∀ d : UInt8, c ≠ d → (c.toNat : Int) ≠ d.toNat := fun d hd he => hd (UInt8.toNat_inj.1 (by omega))
      have hcy : (c.toNat : Int) ≠ y.toNat := by
        rcases hy with ⟨hq, rfl, _⟩ | ⟨_, rfl, _⟩
        · exact nn 34 (fun e => h34 ⟨hq, e⟩)
        · exact nn 10 h10
      have hfr := front_drop hx h
      unfold inkS
      rw [if_neg (by omega), h2, if_neg hcy, if_neg (show (c.toNat : Int) ≠ 10 from nn 10 h10), if_neg (show (c.toNat : Int) ≠ 92 from nn 92 h92), hfr, if_pos rfl, drop_cut h]
      show inkS l y.toNat m 110 f (p + 1) (acc ++ [c]) = _
      rw [inkS_esc hy xs f (p + 1) (acc ++ [c]) hrest (drop_app (x := [c]) h) (by omega)]
      simp; omega
theorem ink_esc {q : Bool} {y : UInt8} {m r' v : List UInt8} (hy : InkK q y m) (hv : badU v = -1) {p : Nat} (h : l.drop p = escQ q v ++ y :: r') : ink l y.toNat m 110 p false = (v, p + (escQ q v).length, false) := by
  obtain ⟨xs, rfl, hall⟩ := badU_scal hv
  have hp : p < l.length := by
    rcases Nat.lt_or_ge p l.length with h' | h'
    · exact h'
    · rw [List.drop_of_length_le h'] at h; simp at h
  unfold ink
  rw [if_neg (by simp), inkS_esc hy xs (l.length + 1) p [] hall h (by omega)]
  rfl
theorem nm_one {P : Int → Bool} {p : Nat} {c d : UInt8} {r : List UInt8} (h : l.drop p = c :: d :: r) (h1 : P c.toNat = true) (h2 : digB c.toNat = false) (h3 : P d.toNat = false) : nmS l P p false = (p + 1, false) := by
  obtain ⟨a1, a2, _⟩ := drop_bt h
  obtain ⟨b1, b2, _⟩ := drop_bt (drop_one h)
  unfold nmS someS
  rw [a2, h2, Bool.and_false, Bool.or_false, if_neg (by simp)]
  rw [whA_yes a1 (by rw [a2]; exact h1), whA_no b1 (by rw [b2]; exact h3)]
  simp
theorem dec_one {p : Nat} {c d : UInt8} {r : List UInt8} (h : l.drop p = c :: d :: r) (h0 : (c.toNat : Int) ≠ 45) (h1 : digB c.toNat = true) (h2 : digB d.toNat = false) (h3 : (d.toNat : Int) ≠ 46) : decS l p false = (p + 1, false) := by
  obtain ⟨a1, a2, _⟩ := drop_bt h
  obtain ⟨b1, b2, _⟩ := drop_bt (drop_one h)
  have hn : numS l p false = (p + 1, false) := by
    unfold numS takeA someS
    rw [if_neg (by simp), isB_no2 h h0, if_neg (by simp), if_neg (by simp)]
    rw [whA_yes a1 (by rw [a2]; exact h1), whA_no b1 (by rw [b2]; exact h2)]
    simp
  unfold decS
  rw [hn, if_neg (by simp), isB_no2 (drop_one h) h3, if_neg (by simp)]
end
/-- The text that is written. -/
def quoteText (v : List UInt8) : List UInt8 :=
  [35, 32, 72, 69, 76, 80, 32, 97, 32] ++ (escQ false v ++ 10 :: 97 :: 123 :: 98 :: 61 :: 34 :: (escQ true v ++ 34 :: 44 :: 99 :: 61 :: 34 :: 34 :: 125 :: 32 :: 49 :: 10 :: 35 :: 32 :: 69 :: 79 :: 70 :: [10]))
def QuotedRows (v : List UInt8) (R1 R2 : MRow) : Prop :=
  R1.kind = 3 ∧ R1.text = mkS v ∧ ∃ t u, R2.tags = [t, u] ∧ t.value = mkS v ∧ u.value = mkS []
theorem open_quotes {v : List UInt8} (hv : badU v = -1) : ∃ R1 R2, openRows (quoteText v) = ([R1, R2], (quoteText v).length, false) ∧ QuotedRows v R1 R2 := by
  obtain ⟨l, hl⟩ : ∃ l, quoteText v = l := ⟨_, rfl⟩
  rw [hl]
  have g0 : l.drop 0 = [35, 32, 72, 69, 76, 80, 32, 97, 32] ++ (escQ false v ++ 10 :: 97 :: 123 :: 98 :: 61 :: 34 :: (escQ true v ++ 34 :: 44 :: 99 :: 61 :: 34 :: 34 :: 125 :: 32 :: 49 :: 10 :: 35 :: 32 :: 69 :: 79 :: 70 :: [10])) := by rw [List.drop_zero, ← hl]; rfl
  have i0 : isB l 0 false 35 = true := isB_yes2 (c := 35) g0 rfl
  have w0 : wordS l wHash 0 false = (2, false) := word_app wHash 0 _ g0
  have g2 := drop_app (x := [35, 32]) (p := 0) g0
  have k84 : isB l 2 false 84 = false := isB_no2 (c := 72) g2 (by decide)
  have k85 : isB l 2 false 85 = false := isB_no2 (c := 72) g2 (by decide)
  have k72 : isB l 2 false 72 = true := isB_yes2 (c := 72) g2 (by decide)
  have w2 : wordS l wHelp 2 false = (7, false) := word_app wHelp 2 _ g2
  have g7 := drop_app (x := [72, 69, 76, 80, 32]) (p := 2) g2
  have n7 : nmS l owName 7 false = (8, false) := nm_one g7 (by decide) (by decide) (by decide)
  have g8 := drop_one g7
  have w8 : wordS l [32] 8 false = (9, false) := word_app [32] 8 _ g8
  have g9 : l.drop 9 = escQ false v ++ 10 :: 97 :: 123 :: 98 :: 61 :: 34 :: (escQ true v ++ 34 :: 44 :: 99 :: 61 :: 34 :: 34 :: 125 :: 32 :: 49 :: 10 :: 35 :: 32 :: 69 :: 79 :: 70 :: [10]) := drop_one g8
  have s9 : ink l 10 inH 110 9 false = _ := ink_esc (q := false) (y := 10) (.inr ⟨rfl, rfl, rfl⟩) hv g9
  have g10 := drop_app g9
  generalize hp1 : 9 + (escQ false v).length = p1 at s9 g10
  have w10 := word_one g10
  have g11 := drop_one g10
  have t1 : otoldS l 3 wHelp 2 false = (⟨3, mkS (cutL l 7 8), 7, [], [], mkS v, 9, false, mkS [], 0⟩, p1 + 1, false) := by
    unfold otoldS otextS
    simp only [w2, n7, w8]
    unfold inkV
    simp only [s9, w10]
    simp [w10]
  have l1 : olineS l 0 = ((some ⟨3, mkS (cutL l 7 8), 7, [], [], mkS v, 9, false, mkS [], 0⟩, false), p1 + 1, false) := by
    unfold olineS
    simp only [i0, w0, k84, k85, k72, t1, if_true, Bool.false_eq_true, if_false]
  have j11 : isB l (p1 + 1) false 35 = false := isB_no2 (c := 97) g11 (by decide)
  have n11 : nmS l owName (p1 + 1) false = (p1 + 1 + 1, false) := nm_one g11 (by decide) (by decide) (by decide)
  have g12 := drop_one g11
  have i12 : isB l (p1 + 1 + 1) false 123 = true := isB_yes2 (c := 123) g12 (by decide)
  have g13 := drop_one g12
  have i13 : isB l (p1 + 1 + 1 + 1) false 125 = false := isB_no2 (c := 98) g13 (by decide)
  have n13 : nmS l owLabel (p1 + 1 + 1 + 1) false = (p1 + 1 + 1 + 1 + 1, false) := nm_one g13 (by decide) (by decide) (by decide)
  have g14 := drop_one g13
  have w14 : wordS l wEq (p1 + 1 + 1 + 1 + 1) false = (p1 + 1 + 1 + 1 + 1 + 2, false) := word_app wEq _ _ g14
  have g15 := drop_app (x := [61, 34]) g14
  have e15 : p1 + 1 + 1 + 1 + 1 + [(61 : UInt8), 34].length = p1 + 1 + 1 + 1 + 1 + 2 := rfl
  rw [e15] at g15
  have s15 : ink l 34 inV 110 (p1 + 1 + 1 + 1 + 1 + 2) false = _ := ink_esc (q := true) (y := 34) (.inl ⟨rfl, rfl, rfl⟩) hv g15
  have g16 := drop_app g15
  generalize hp2 : p1 + 1 + 1 + 1 + 1 + 2 + (escQ true v).length = p2 at s15 g16
  have w16 := word_one g16
  have g17 := drop_one g16
  have i17 : isB l (p2 + 1) false 44 = true := isB_yes2 (c := 44) g17 (by decide)
  have g18 := drop_one g17
  have n18 : nmS l owLabel (p2 + 1 + 1) false = (p2 + 1 + 1 + 1, false) := nm_one g18 (by decide) (by decide) (by decide)
  have g19 := drop_one g18
  have w19 : wordS l wEq (p2 + 1 + 1 + 1) false = (p2 + 1 + 1 + 1 + 2, false) := word_app wEq _ _ g19
  have g20 := drop_app (x := [61, 34]) g19
  have e20 : p2 + 1 + 1 + 1 + [(61 : UInt8), 34].length = p2 + 1 + 1 + 1 + 2 := rfl
  rw [e20] at g20
  have s20 : ink l 34 inV 110 (p2 + 1 + 1 + 1 + 2) false = ([], p2 + 1 + 1 + 1 + 2, false) := ink_esc (q := true) (y := 34) (v := []) (.inl ⟨rfl, rfl, rfl⟩) rfl g20
  have w20 := word_one g20
  have g21 := drop_one g20
  have i21 : isB l (p2 + 1 + 1 + 1 + 2 + 1) false 44 = false := isB_no2 (c := 125) g21 (by decide)
  have w21 := word_one g21
  have g22 := drop_one g21
  have w22 := word_one g22
  have g23 := drop_one g22
  have d23 : decS l (p2 + 1 + 1 + 1 + 2 + 1 + 1 + 1) false = (p2 + 1 + 1 + 1 + 2 + 1 + 1 + 1 + 1, false) := dec_one g23 (by decide) (by decide) (by decide) (by decide)
  have g24 := drop_one g23
  have i24 : isB l (p2 + 1 + 1 + 1 + 2 + 1 + 1 + 1 + 1) false 32 = false := isB_no2 (c := 10) g24 (by decide)
  have w24 := word_one g24
  have g25 := drop_one g24
  have tag1 : otagS l (p1 + 1 + 1 + 1) false = (⟨mkS (cutL l (p1 + 1 + 1 + 1) (p1 + 1 + 1 + 1 + 1)), mkS v, p1 + 1 + 1 + 1, p1 + 1 + 1 + 1 + 1 + 2⟩, p2 + 1, false) := by
    unfold otagS inkV; simp only [n13, w14, s15, w16, Bool.false_eq_true, if_false]
  have tag2 : otagS l (p2 + 1 + 1) false = (⟨mkS (cutL l (p2 + 1 + 1) (p2 + 1 + 1 + 1)), mkS [], p2 + 1 + 1, p2 + 1 + 1 + 1 + 2⟩, p2 + 1 + 1 + 1 + 2 + 1, false) := by
    unfold otagS inkV; simp only [n18, w19, s20, w20, Bool.false_eq_true, if_false]
  have hlen : 2 ≤ l.length := by have := (drop_bt g8).1; omega
  have htags : otagsS l (p1 + 1 + 1) false = ([⟨mkS (cutL l (p1 + 1 + 1 + 1) (p1 + 1 + 1 + 1 + 1)), mkS v, p1 + 1 + 1 + 1, p1 + 1 + 1 + 1 + 1 + 2⟩, ⟨mkS (cutL l (p2 + 1 + 1) (p2 + 1 + 1 + 1)), mkS [], p2 + 1 + 1, p2 + 1 + 1 + 1 + 2⟩], p2 + 1 + 1 + 1 + 2 + 1 + 1, false) := by
    have hgo : otagsGo l (l.length + 1) (p1 + 1 + 1 + 1) false [] = ([⟨mkS (cutL l (p1 + 1 + 1 + 1) (p1 + 1 + 1 + 1 + 1)), mkS v, p1 + 1 + 1 + 1, p1 + 1 + 1 + 1 + 1 + 2⟩, ⟨mkS (cutL l (p2 + 1 + 1) (p2 + 1 + 1 + 1)), mkS [], p2 + 1 + 1, p2 + 1 + 1 + 1 + 2⟩], p2 + 1 + 1 + 1 + 2 + 1, false) := by
      obtain ⟨n, hn⟩ : ∃ n, l.length + 1 = n + 1 + 1 := ⟨l.length - 1, by omega⟩
      rw [hn]
      unfold otagsGo
      rw [tag1, if_neg (by simp), if_pos i17]
      unfold otagsGo
      rw [tag2, if_neg (by simp), if_neg (by rw [i21]; simp)]
      rfl
    unfold otagsS
    simp only [i12, i13, hgo, w21, if_true, Bool.false_eq_true, if_false]
  have samp : sampS l (p1 + 1) false = (⟨0, mkS (cutL l (p1 + 1) (p1 + 1 + 1)), p1 + 1, [⟨mkS (cutL l (p1 + 1 + 1 + 1) (p1 + 1 + 1 + 1 + 1)), mkS v, p1 + 1 + 1 + 1, p1 + 1 + 1 + 1 + 1 + 2⟩, ⟨mkS (cutL l (p2 + 1 + 1) (p2 + 1 + 1 + 1)), mkS [], p2 + 1 + 1, p2 + 1 + 1 + 1 + 2⟩], [], mkS (cutL l (p2 + 1 + 1 + 1 + 2 + 1 + 1 + 1) (p2 + 1 + 1 + 1 + 2 + 1 + 1 + 1 + 1)), p2 + 1 + 1 + 1 + 2 + 1 + 1 + 1, false, mkS [], 0⟩, p2 + 1 + 1 + 1 + 2 + 1 + 1 + 1 + 1 + 1, false) := by
    unfold sampS
    simp only [n11, htags, w22, d23, i24, w24, Bool.false_eq_true, if_false]
  have l2 : olineS l (p1 + 1) = ((some (sampS l (p1 + 1) false).1, false), (sampS l (p1 + 1) false).2) := by
    unfold olineS; rw [j11, if_neg (by simp)]
  rw [samp] at l2
  generalize hq : p2 + 1 + 1 + 1 + 2 + 1 + 1 + 1 + 1 + 1 = p3 at l2 g25
  have i25 : isB l p3 false 35 = true := isB_yes2 (c := 35) g25 rfl
  have w25 : wordS l wHash p3 false = (p3 + 2, false) := word_app wHash _ _ g25
  have g26 := drop_app (x := [35, 32]) g25
  have e26 : p3 + [(35 : UInt8), 32].length = p3 + 2 := rfl
  rw [e26] at g26
  have m84 : isB l (p3 + 2) false 84 = false := isB_no2 (c := 69) g26 (by decide)
  have m85 : isB l (p3 + 2) false 85 = false := isB_no2 (c := 69) g26 (by decide)
  have m72 : isB l (p3 + 2) false 72 = false := isB_no2 (c := 69) g26 (by decide)
  have w26 : wordS l wEOF (p3 + 2) false = (p3 + 2 + 3, false) := word_app wEOF _ _ g26
  have g27 := drop_app (x := [69, 79, 70]) g26
  have e27 : p3 + 2 + [(69 : UInt8), 79, 70].length = p3 + 2 + 3 := rfl
  rw [e27] at g27
  have l3 : olineS l p3 = ((none, true), p3 + 2 + 3, false) := by
    unfold olineS
    simp only [i25, w25, m84, m85, m72, w26, if_true, Bool.false_eq_true, if_false]
  have w27 := word_one g27
  have g28 := drop_one g27
  have hlt := (drop_bt g27).1
  have hend : p3 + 2 + 3 + 1 = l.length := drop_nil g28 (by omega)
  refine ⟨⟨3, mkS (cutL l 7 8), 7, [], [], mkS v, 9, false, mkS [], 0⟩, ⟨0, mkS (cutL l (p1 + 1) (p1 + 1 + 1)), p1 + 1, [⟨mkS (cutL l (p1 + 1 + 1 + 1) (p1 + 1 + 1 + 1 + 1)), mkS v, p1 + 1 + 1 + 1, p1 + 1 + 1 + 1 + 1 + 2⟩, ⟨mkS (cutL l (p2 + 1 + 1) (p2 + 1 + 1 + 1)), mkS [], p2 + 1 + 1, p2 + 1 + 1 + 1 + 2⟩], [], mkS (cutL l (p2 + 1 + 1 + 1 + 2 + 1 + 1 + 1) (p2 + 1 + 1 + 1 + 2 + 1 + 1 + 1 + 1)), p2 + 1 + 1 + 1 + 2 + 1 + 1 + 1, false, mkS [], 0⟩, ?_, rfl, rfl, _, _, rfl, rfl, rfl⟩
  · unfold openRows
    obtain ⟨n, hn⟩ : ∃ n, l.length + 2 = n + 1 + 1 + 1 := ⟨l.length - 1, by omega⟩
    rw [hn]
    have hrows : orowsGo l (n + 1 + 1 + 1) 0 [] = ([(⟨3, mkS (cutL l 7 8), 7, [], [], mkS v, 9, false, mkS [], 0⟩ : MRow), ⟨0, mkS (cutL l (p1 + 1) (p1 + 1 + 1)), p1 + 1, [⟨mkS (cutL l (p1 + 1 + 1 + 1) (p1 + 1 + 1 + 1 + 1)), mkS v, p1 + 1 + 1 + 1, p1 + 1 + 1 + 1 + 1 + 2⟩, ⟨mkS (cutL l (p2 + 1 + 1) (p2 + 1 + 1 + 1)), mkS [], p2 + 1 + 1, p2 + 1 + 1 + 1 + 2⟩], [], mkS (cutL l (p2 + 1 + 1 + 1 + 2 + 1 + 1 + 1) (p2 + 1 + 1 + 1 + 2 + 1 + 1 + 1 + 1)), p2 + 1 + 1 + 1 + 2 + 1 + 1 + 1, false, mkS [], 0⟩], p3 + 2 + 3, false) := by
      unfold orowsGo
      rw [l1, if_neg (by simp), if_neg (by simp)]
      unfold orowsGo
      rw [l2, if_neg (by simp), if_neg (by simp)]
      unfold orowsGo
      rw [l3, if_pos rfl]
      rfl
    rw [hrows]
    have hne : (p3 + 2 + 3 == l.length) = false := by rw [beq_eq_false_iff_ne]; omega
    have he2 : (l.length == l.length) = true := by simp
    unfold oendS
    simp only [hne, w27, Bool.not_false, Bool.and_self, if_true, hend, he2]
inductive TK where
  | t | u | h
inductive OQ where
  | line | h1 | h2 | tY | tP | tE | tS | uN | uI | uT | uS | hE | hL | hP | hS | eO | eF | e1 | e2
  | n0 (k : TK) | n (k : TK) | x0t | xt | x0u | xu | hh | hhE | hhU (u : UQ)
  | sn | g0 | g1 | g | gq | v | vE | vU (u : UQ) | vz | sp
  | d0 (m : Bool) | dN (m : Bool) | di (m : Bool) | dp (m : Bool) | df (m : Bool)
def aftD (m : Bool) (c : Int) : Option OQ := if m = false ∧ c = 32 then some (.d0 true) else if c = 10 then some .line else none
def fstB (p : Int → Bool) (c : Int) : Bool := p c && !digB c
def toldQ : TK → OQ
  | .t => .x0t | .u => .x0u | .h => .hh
def stO : OQ → Int → Option OQ
  | .line, c => if c = 35 then some .h1 else if fstB owName c then some .sn else none
  | .h1, c => if c = 32 then some .h2 else none
  | .h2, c => if c = 84 then some .tY else if c = 85 then some .uN else if c = 72 then some .hE else if c = 69 then some .eO else none
  | .tY, c => if c = 89 then some .tP else none
  | .tP, c => if c = 80 then some .tE else none
  | .tE, c => if c = 69 then some .tS else none
  | .tS, c => if c = 32 then some (.n0 .t) else none
  | .uN, c => if c = 78 then some .uI else none
  | .uI, c => if c = 73 then some .uT else none
  | .uT, c => if c = 84 then some .uS else none
  | .uS, c => if c = 32 then some (.n0 .u) else none
  | .hE, c => if c = 69 then some .hL else none
  | .hL, c => if c = 76 then some .hP else none
  | .hP, c => if c = 80 then some .hS else none
  | .hS, c => if c = 32 then some (.n0 .h) else none
  | .eO, c => if c = 79 then some .eF else none
  | .eF, c => if c = 70 then some .e1 else none
  | .e1, c => if c = 10 then some .e2 else none
  | .e2, _ => none
  | .n0 k, c => if fstB owName c then some (.n k) else none
  | .n k, c => if owName c then some (.n k) else if c = 32 then some (toldQ k) else none
  | .x0t, c => if smB c then some .xt else none
  | .xt, c => if smB c then some .xt else if c = 10 then some .line else none
  | .x0u, c => if owName c then some .xu else none
  | .xu, c => if owName c then some .xu else if c = 10 then some .line else none
  | .hh, c => if c = 10 then some .line else if c = 92 then some .hhE else if c < 128 then some .hh else (uFirst c).map .hhU
  | .hhE, c => if (inH.any fun d => c == d.toNat) = true then some .hh else none
  | .hhU u, c => (uNext u c).map fun o => match o with
    | none => .hh
    | some u' => .hhU u'
  | .sn, c => if owName c then some .sn else if c = 123 then some .g0 else if c = 32 then some (.d0 false) else none
  | .g0, c => if c = 125 then some .sp else if fstB owLabel c then some .g else none
  | .g1, c => if fstB owLabel c then some .g else none
  | .g, c => if owLabel c then some .g else if c = 61 then some .gq else none
  | .gq, c => if c = 34 then some .v else none
  | .v, c => if c = 34 then some .vz else if c = 10 then none else if c = 92 then some .vE else if c < 128 then some .v else (uFirst c).map .vU
  | .vE, c => if (inV.any fun d => c == d.toNat) = true then some .v else none
  | .vU u, c => (uNext u c).map fun o => match o with
    | none => .v
    | some u' => .vU u'
  | .vz, c => if c = 44 then some .g1 else if c = 125 then some .sp else none
  | .sp, c => if c = 32 then some (.d0 false) else none
  | .d0 m, c => if c = 45 then some (.dN m) else if digB c then some (.di m) else none
  | .dN m, c => if digB c then some (.di m) else none
  | .di m, c => if digB c then some (.di m) else if c = 46 then some (.dp m) else aftD m c
  | .dp m, c => if digB c then some (.df m) else none
  | .df m, c => if digB c then some (.df m) else aftD m c
def acO : OQ → Bool
  | .e1 => true
  | .e2 => true
  | _ => false
section
variable {l : List UInt8}
abbrev W (l : List UInt8) (q : OQ) (a : Nat) : Int := vd stO acO l q a
/-- A verdict behind a stage. -/
def Gs (x : Int) (r : Nat × Bool) (y : Nat → Int) : Prop := x = if r.2 = true then (r.1 : Int) else y r.1
theorem Gs.bind {x : Int} {r : Nat × Bool} {y z : Nat → Int} {F : Nat → Bool → Nat × Bool} (h : Gs x r y) (h0 : F r.1 true = (r.1, true)) (h1 : r.2 = false → Gs (y r.1) (F r.1 false) z) : Gs x (F r.1 r.2) z := by
  unfold Gs at h ⊢
  cases hr : r.2
  · rw [hr, if_neg (by simp)] at h
    rw [h]
    exact h1 hr
  · rw [hr, if_pos rfl] at h
    rw [h0, if_pos rfl]; exact h
/-- A fork of one byte, of two. -/
def fk1 (l : List UInt8) (c : Int) (q : OQ) (p : Nat) : Int := if isB l p false c = true then W l q (p + 1) else (p : Int)
def fk2 (l : List UInt8) (c : Int) (q : OQ) (d : Int) (q' : OQ) (p : Nat) : Int := if isB l p false c = true then W l q (p + 1) else fk1 l d q' p
theorem fk1_of {q q' : OQ} {c : Int} {p : Nat} (hac : acO q = false) (h : p < l.length → stO q (bt l p) = if bt l p = c then some q' else none) : W l q p = fk1 l c q' p := by
  unfold fk1
  by_cases hp : p < l.length
  · have h1 := h hp
    cases k : isB l p false c
    · rw [if_neg (isB_f k hp)] at h1
      rw [if_neg (by simp)]
      exact vd_no hp h1
    · rw [if_pos (isB_iff.1 k).2] at h1
      rw [if_pos rfl]
      exact vd_yes hp h1
  · rw [isB_end hp, if_neg (by simp)]
    exact vd_end (by omega) hac
theorem fk2_of {q q1 q2 : OQ} {c d : Int} {p : Nat} (hac : acO q = false) (h : p < l.length → stO q (bt l p) = if bt l p = c then some q1 else if bt l p = d then some q2 else none) : W l q p = fk2 l c q1 d q2 p := by
  unfold fk2 fk1
  by_cases hp : p < l.length
  · have h1 := h hp
    cases k : isB l p false c
    · rw [if_neg (isB_f k hp)] at h1
      rw [if_neg (by simp)]
      cases k2 : isB l p false d
      · rw [if_neg (isB_f k2 hp)] at h1
        rw [if_neg (by simp)]
        exact vd_no hp h1
      · rw [if_pos (isB_iff.1 k2).2] at h1
        rw [if_pos rfl]
        exact vd_yes hp h1
    · rw [if_pos (isB_iff.1 k).2] at h1
      rw [if_pos rfl]
      exact vd_yes hp h1
  · rw [isB_end hp, isB_end hp, if_neg (by simp), if_neg (by simp)]
    exact vd_end (by omega) hac
theorem gs_word1 (c : UInt8) (q : OQ) (p : Nat) : Gs (fk1 l c.toNat q p) (wordS l [c] p false) (W l q) := by
  unfold Gs fk1
  rw [word1]
  cases k : isB l p false c.toNat <;> simp
/-- A name. -/
theorem gs_nm {P : Int → Bool} {q0 q : OQ} {a : Nat} (hac : acO q0 = false) (h0 : a < l.length → stO q0 (bt l a) = if fstB P (bt l a) then some q else none) (h : ∀ c, P c = true → stO q c = some q) : Gs (W l q0 a) (nmS l P a false) (W l q) := by
  unfold Gs nmS
  by_cases ha : a < l.length
  · rw [pkB_bt ha, Bool.true_and, Bool.false_or]
    have h1 := h0 ha
    unfold fstB at h1
    cases hd : digB (bt l a)
    · rw [hd] at h1
      simp only [Bool.not_false, Bool.and_true] at h1
      exact vd_some hac (fun _ hp => by rw [h1, if_pos hp]) (fun _ hp => by rw [h1, if_neg (by rw [hp]; simp)]) h
    · rw [hd] at h1
      simp only [Bool.not_true, Bool.and_false, Bool.false_eq_true, if_false] at h1
      unfold someS
      rw [if_pos rfl, if_pos rfl]
      exact vd_no ha h1
  · rw [pkB_end (by omega)]
    exact vd_some hac (fun h => absurd h ha) (fun h => absurd h ha) h
theorem nm_stop {P : Int → Bool} {a : Nat} (h : (nmS l P a false).2 = false) (h2 : (nmS l P a false).1 < l.length) : P (bt l (nmS l P a false).1) = false := by
  unfold nmS at h h2 ⊢
  cases k : (false || (pkB l a false && digB (bt l a)))
  · rw [k] at h2; exact someS_stop h2
  · rw [k] at h; simp [someS] at h
theorem gs_then {x : Int} {r : Nat × Bool} {y z : Nat → Int} (h : Gs x r y) (h1 : r.2 = false → y r.1 = z r.1) : Gs x r z := by
  unfold Gs at h ⊢
  cases hr : r.2
  · rw [hr, if_neg (by simp)] at h; rw [if_neg (by simp), h, h1 hr]
  · rw [hr, if_pos rfl] at h; rw [if_pos rfl, h]
theorem gs_nm1 {P : Int → Bool} {q0 q q' : OQ} {c : Int} {a : Nat} (hac : acO q0 = false) (hac2 : acO q = false) (h0 : a < l.length → stO q0 (bt l a) = if fstB P (bt l a) then some q else none) (h : ∀ d, stO q d = if P d then some q else if d = c then some q' else none) : Gs (W l q0 a) (nmS l P a false) (fk1 l c q') :=
  gs_then (gs_nm hac h0 (fun d hd => by rw [h, if_pos hd])) (fun hr => fk1_of hac2 (fun hp => by rw [h, if_neg (by rw [nm_stop hr hp]; simp)]))
theorem gs_some1 {P : Int → Bool} {q0 q q' : OQ} {c : Int} {a : Nat} (hac : acO q0 = false) (hac2 : acO q = false) (h0 : ∀ d, stO q0 d = if P d then some q else none) (h : ∀ d, stO q d = if P d then some q else if d = c then some q' else none) : Gs (W l q0 a) (someS l P a false) (fk1 l c q') :=
  gs_then (y := W l q) (vd_some hac (fun _ hp => by rw [h0, if_pos hp]) (fun _ hp => by rw [h0, if_neg (by rw [hp]; simp)]) (fun d hd => by rw [h, if_pos hd])) (fun _ => fk1_of hac2 (fun hp => by rw [h, if_neg (by rw [someS_stop hp]; simp)]))
theorem u_hh : UStep stO acO .hh .hhU := ⟨fun _ _ => rfl, fun _ => rfl⟩
theorem u_v : UStep stO acO .v .vU := ⟨fun _ _ => rfl, fun _ => rfl⟩
theorem ink_stop {e : Int} {m : List UInt8} {n : Int} {a : Nat} (ha : a ≤ l.length) (h : (ink l e m n a false).2.2 = false) : (ink l e m n a false).2.1 < l.length ∧ bt l (ink l e m n a false).2.1 = e := inkS_stop (l.length + 1) a [] ha h
theorem gs_hh {a : Nat} (ha : a ≤ l.length) : Gs (W l .hh a) (ink l 10 inH 110 a false).2 (fk1 l 10 .line) := by
  have hi := vd_ink (l := l) (e := 10) (m := inH) (n := 110) u_hh rfl (show acO .hhE = false from rfl) (fun h => absurd rfl h) (fun _ => rfl) (fun _ => rfl) (fun c h0 h1 h2 h3 h4 => by
    show (if c = 10 then _ else if c = 92 then _ else if c < 128 then _ else _) = _
    rw [if_neg h2, if_neg h4, if_pos h1]) (fun c h0 h1 => by
    show (if c = 10 then _ else if c = 92 then _ else if c < 128 then _ else _) = _
    rw [if_neg h1, if_neg (by omega), if_neg (by omega)]) (l.length + 1) a [] (by omega) ha
  refine gs_then (y := W l .hh) hi (fun hr => ?_)
  obtain ⟨h1, h2⟩ := ink_stop ha hr
  refine fk1_of rfl (fun _ => ?_)
  rw [h2]; rfl
theorem gs_v {a : Nat} (ha : a ≤ l.length) : Gs (W l .v a) (ink l 34 inV 110 a false).2 (fk1 l 34 .vz) := by
  have hi := vd_ink (l := l) (e := 34) (m := inV) (n := 110) u_v rfl (show acO .vE = false from rfl) (fun _ => rfl) (fun _ => rfl) (fun _ => rfl) (fun c h0 h1 h2 h3 h4 => by
    show (if c = 34 then _ else if c = 10 then _ else if c = 92 then _ else if c < 128 then _ else _) = _
    rw [if_neg h2, if_neg h3, if_neg h4, if_pos h1]) (fun c h0 h1 => by
    show (if c = 34 then _ else if c = 10 then _ else if c = 92 then _ else if c < 128 then _ else _) = _
    rw [if_neg h1, if_neg (by omega), if_neg (by omega), if_neg (by omega)]) (l.length + 1) a [] (by omega) ha
  refine gs_then (y := W l .v) hi (fun hr => ?_)
  obtain ⟨h1, h2⟩ := ink_stop ha hr
  refine fk1_of rfl (fun _ => ?_)
  rw [h2]; rfl
theorem nm_no (P : Int → Bool) (a : Nat) : nmS l P a true = (a, true) := by simp [nmS, someS]
theorem ink_no (e : Int) (m : List UInt8) (n : Int) (a : Nat) : (ink l e m n a true).2 = (a, true) := by simp [ink]
theorem dec_no (a : Nat) : decS l a true = (a, true) := by simp [decS, numS]
/-- A number's text. -/
def aftV (l : List UInt8) (m : Bool) (p : Nat) : Int := if m = false ∧ isB l p false 32 = true then W l (.d0 true) (p + 1) else fk1 l 10 .line p
theorem aft_of {q : OQ} {m : Bool} {p : Nat} (hac : acO q = false) (h : p < l.length → stO q (bt l p) = aftD m (bt l p)) : W l q p = aftV l m p := by
  unfold aftV
  cases m
  · have := fk2_of (l := l) (q := q) (q1 := .d0 true) (q2 := .line) (c := 32) (d := 10) hac (fun hp => by rw [h hp]; unfold aftD; simp)
    rw [this]; unfold fk2; simp
  · rw [if_neg (by simp)]
    exact fk1_of hac (fun hp => by rw [h hp]; unfold aftD; simp)
theorem gs_num {m : Bool} {a : Nat} : Gs (W l (.d0 m) a) (numS l a false) (W l (.di m)) := by
  unfold numS takeA
  rw [if_neg (by simp)]
  cases k4 : isB l a false 45
  · rw [if_neg (by simp)]
    exact vd_some rfl (fun hl h => by
      have := digB_iff.1 h
      show (if bt l a = 45 then _ else if digB (bt l a) = true then _ else _) = _
      rw [if_neg (by omega), if_pos h]) (fun hl h => by
      show (if bt l a = 45 then _ else if digB (bt l a) = true then _ else _) = _
      rw [if_neg (isB_f k4 hl), if_neg (by rw [h]; simp)]) (fun c h => by show (if _ then _ else _) = _; rw [if_pos h])
  · have hk := isB_iff.1 k4
    rw [if_pos rfl]
    have hv5 : W l (.d0 m) a = W l (.dN m) (a + 1) := vd_yes hk.1 (by rw [hk.2]; rfl)
    unfold Gs
    rw [hv5]
    exact vd_some rfl (fun hl h => by show (if _ then _ else _) = _; rw [if_pos h]) (fun hl h => by show (if _ then _ else _) = _; rw [if_neg (by rw [h]; simp)]) (fun c h => by show (if _ then _ else _) = _; rw [if_pos h])
theorem num_stop {a : Nat} (h : (numS l a false).1 < l.length) : digB (bt l (numS l a false).1) = false := by
  unfold numS at h ⊢
  rw [if_neg (by simp)] at h ⊢
  exact someS_stop h
theorem gs_dec {m : Bool} {a : Nat} : Gs (W l (.d0 m) a) (decS l a false) (aftV l m) := by
  have h := gs_num (l := l) (m := m) (a := a)
  have hs := num_stop (l := l) (a := a)
  unfold decS
  generalize numS l a false = r at h hs ⊢
  obtain ⟨p, np⟩ := r
  unfold Gs at h
  simp only at h hs ⊢
  cases np
  · rw [if_neg (by simp)] at h ⊢
    cases k : isB l p false 46
    · rw [if_neg (by simp)]
      unfold Gs
      rw [if_neg (by simp), h]
      refine aft_of rfl (fun hp => ?_)
      show (if digB _ = true then _ else if _ = 46 then _ else _) = _
      rw [if_neg (by rw [hs hp]; simp), if_neg (isB_f k hp)]
    · have hk := isB_iff.1 k
      rw [if_pos rfl]
      have h5 : W l (.di m) p = W l (.dp m) (p + 1) := vd_yes hk.1 (by
        rw [hk.2]; rfl)
      rw [h, h5]
      refine gs_then (y := W l (.df m)) (vd_some rfl (fun hl h => by show (if _ then _ else _) = _; rw [if_pos h]) (fun hl h => by show (if _ then _ else _) = _; rw [if_neg (by rw [h]; simp)]) (fun c h => by show (if _ then _ else _) = _; rw [if_pos h])) (fun _ => ?_)
      refine aft_of rfl (fun hp => ?_)
      show (if digB _ = true then _ else _) = _
      rw [if_neg (by rw [someS_stop hp]; simp)]
  · rw [if_pos rfl] at h ⊢
    unfold Gs
    rw [if_pos rfl]; exact h
end
section
variable {l : List UInt8}
theorem gs_wordQ {w : List UInt8} {qs : List OQ} {q q' : OQ} {a : Nat} (h1 : qs.length + 1 = w.length) (h2 : ∀ i (hi : i < w.length), acO ((q :: qs).getD i q) = false ∧ stO ((q :: qs).getD i q) (w[i].toNat) = some ((qs ++ [q']).getD i q) ∧ ∀ d : Int, d ≠ w[i].toNat → stO ((q :: qs).getD i q) d = none) : Gs (W l q a) (wordS l w a false) (W l q') :=
  vd_word w qs q q' a h1 h2
theorem gs_eq {a : Nat} : Gs (fk1 l 61 .gq a) (wordS l wEq a false) (W l .v) := by
  unfold fk1
  cases k : isB l a false 61
  · have : wordS l wEq a false = (a, true) := by
      unfold wEq wordS; rw [if_neg (by simp)]
      have k2 : isB l a false ((61 : UInt8).toNat : Int) = false := k
      rw [k2]; simp
    rw [this]; rfl
  · have e : wordS l wEq a false = wordS l [34] (a + 1) false := word_head (c := 61) k
    rw [e, if_pos rfl]
    have h := fk1_of (l := l) (q := .gq) (q' := .v) (c := 34) (p := a + 1) rfl (fun _ => rfl)
    rw [h]
    exact gs_word1 34 .v (a + 1)
/-- A label. -/
theorem gs_tag {q0 : OQ} {a : Nat} (ha : a ≤ l.length) (hac : acO q0 = false) (h0 : a < l.length → stO q0 (bt l a) = if fstB owLabel (bt l a) then some .g else none) : Gs (W l q0 a) (otagS l a false).2 (fk2 l 44 .g1 125 .sp) := by
  have h1 := gs_nm1 (l := l) (P := owLabel) (q0 := q0) (q := .g) (q' := .gq) (c := 61) (a := a) hac rfl h0 (fun d => rfl)
  have l1 := nmS_le (l := l) owLabel false ha
  have h2 := Gs.bind (F := fun p no => wordS l wEq p no) h1 (word_no _ _ _) (fun _ => gs_eq)
  have l2 := wordS_le l wEq (nmS l owLabel a false).1 (nmS l owLabel a false).2 l1.2
  have h3 := Gs.bind (F := fun p no => (ink l 34 inV 110 p no).2) h2 (ink_no _ _ _ _) (fun _ => gs_v l2.2)
  have h4 := Gs.bind (F := fun p no => wordS l [34] p no) h3 (word_no _ _ _) (fun _ => gs_word1 34 .vz _)
  exact gs_then h4 (fun _ => fk2_of rfl (fun _ => rfl))
theorem gs_tagsGo : ∀ f a acc q0, l.length < f + a → a ≤ l.length → acO q0 = false → (a < l.length → stO q0 (bt l a) = if fstB owLabel (bt l a) then some .g else none) → Gs (W l q0 a) (otagsGo l f a false acc).2 (fk1 l 125 .sp)
  | 0, a, acc, q0, hf, ha, _, _ => by omega
  | f + 1, a, acc, q0, hf, ha, hac, h0 => by
    have ht := gs_tag ha hac h0
    have hle := otagS_le (l := l) false ha
    rw [otagsGo_step, if_neg (by simp)]
    cases k : isB l (otagS l a false).2.1 (otagS l a false).2.2 44
    · rw [if_neg (by simp)]
      refine gs_then ht (fun hr => ?_)
      rw [hr] at k
      unfold fk2
      rw [k, if_neg (by simp)]
    · rw [if_pos rfl]
      have hlt := isB_lt k
      unfold Gs at ht
      rw [hlt.2.1, if_neg (by simp)] at ht
      unfold fk2 at ht
      rw [hlt.2.1] at k
      rw [k, if_pos rfl] at ht
      rw [ht]
      exact gs_tagsGo f _ _ .g1 (by omega) (by omega) rfl (fun _ => rfl)
theorem gs_tags {p : Nat} (hp : p ≤ l.length) : Gs (fk2 l 123 .g0 32 (.d0 false) p) (otagsS l p false).2 (fk1 l 32 (.d0 false)) := by
  unfold otagsS fk2
  cases k : isB l p false 123
  · rw [if_neg (by simp), if_neg (by simp)]; rfl
  · have hlt := isB_lt k
    rw [if_pos rfl, if_pos rfl]
    cases k2 : isB l (p + 1) false 125
    · rw [if_neg (by simp)]
      have h1 := gs_tagsGo (l := l) (l.length + 1) (p + 1) [] .g0 (by omega) (by omega) rfl (fun hq => by
        show (if bt l (p + 1) = 125 then _ else _) = _
        rw [if_neg (isB_f k2 hq)])
      have h2 := Gs.bind (F := fun p no => wordS l [125] p no) h1 (word_no _ _ _) (fun _ => gs_word1 125 .sp _)
      exact gs_then h2 (fun _ => fk1_of rfl (fun _ => rfl))
    · have hk := isB_iff.1 k2
      rw [if_pos rfl]
      unfold Gs
      rw [if_neg (by simp)]
      have : W l .g0 (p + 1) = W l .sp (p + 1 + 1) := vd_yes hk.1 (by rw [hk.2]; rfl)
      rw [this]
      exact fk1_of rfl (fun _ => rfl)
/-- A sample. -/
theorem gs_samp {a : Nat} (ha : a ≤ l.length) (h35 : isB l a false 35 = false) : Gs (W l .line a) (sampS l a false).2 (W l .line) := by
  have h1 : Gs (W l .line a) (nmS l owName a false) (fk2 l 123 .g0 32 (.d0 false)) := by
    refine gs_then (gs_nm (q := .sn) rfl (fun hl => ?_) (fun c hc => ?_)) (fun hr => fk2_of rfl (fun hp => ?_))
    · show (if bt l a = 35 then _ else _) = _
      rw [if_neg (isB_f h35 hl)]
    · show (if owName c = true then _ else _) = _
      rw [if_pos hc]
    · show (if owName _ = true then _ else if _ = 123 then _ else if _ = 32 then _ else _) = _
      rw [if_neg (by rw [nm_stop hr hp]; simp)]
  have l1 := nmS_le (l := l) owName false ha
  unfold sampS
  simp only
  generalize nmS l owName a false = n at h1 l1 ⊢
  have h2 := Gs.bind (F := fun p no => (otagsS l p no).2) h1 (by simp [otagsS, isB_no]) (fun _ => gs_tags l1.2)
  have l2 := otagsS_le (l := l) n.2 l1.2
  try simp only at h2
  generalize otagsS l n.1 n.2 = t at h2 l2 ⊢
  have h3 := Gs.bind (F := fun p no => wordS l [32] p no) h2 (word_no _ _ _) (fun _ => gs_word1 32 (.d0 false) _)
  try simp only at h3
  generalize wordS l [32] t.2.1 t.2.2 = w at h3 ⊢
  have h4 := Gs.bind (F := fun p no => decS l p no) h3 (dec_no _) (fun _ => gs_dec)
  try simp only at h4
  generalize decS l w.1 w.2 = d at h4 ⊢
  cases k : isB l d.1 d.2 32
  · rw [if_neg (by simp)]
    refine Gs.bind (F := fun p no => wordS l [10] p no) (y := fk1 l 10 .line) (gs_then h4 (fun hr => ?_)) (word_no _ _ _) (fun _ => gs_word1 10 .line _)
    rw [hr] at k
    unfold aftV
    rw [k, if_neg (by simp)]
  · have hlt := isB_lt k
    rw [if_pos rfl]
    unfold Gs at h4
    rw [hlt.2.1] at h4 k
    rw [if_neg (by simp)] at h4
    unfold aftV at h4
    rw [if_pos ⟨rfl, k⟩] at h4
    rw [h4]
    have h5 := gs_dec (l := l) (m := true) (a := d.1 + 1)
    refine Gs.bind (F := fun p no => wordS l [10] p no) (y := fk1 l 10 .line) (gs_then h5 (fun hr => ?_)) (word_no _ _ _) (fun _ => gs_word1 10 .line _)
    unfold aftV
    rw [if_neg (by simp)]
/-- What is told of a family. -/
def kindQ : Nat → TK
  | 1 => .t
  | 2 => .u
  | _ => .h
theorem gs_text {K a : Nat} (ha : a ≤ l.length) (hK : K = 1 ∨ K = 2 ∨ K = 3) : Gs (W l (toldQ (kindQ K)) a) (otextS l K a false).2 (fk1 l 10 .line) := by
  rcases hK with rfl | rfl | rfl
  · exact gs_some1 (P := smB) (q := .xt) rfl rfl (fun _ => rfl) (fun _ => rfl)
  · exact gs_some1 (P := owName) (q := .xu) rfl rfl (fun _ => rfl) (fun _ => rfl)
  · exact gs_hh ha
theorem gs_told {K a : Nat} {word : List UInt8} {x : Int} (ha : a ≤ l.length) (hK : K = 1 ∨ K = 2 ∨ K = 3) (hw : Gs x (wordS l word a false) (W l (.n0 (kindQ K)))) : Gs x (otoldS l K word a false).2 (W l .line) := by
  unfold otoldS
  simp only
  have l1 := wordS_le l word a false ha
  generalize wordS l word a false = w at hw l1 ⊢
  have h2 := Gs.bind (F := fun p no => nmS l owName p no) hw (nm_no _ _) (fun _ => gs_nm1 (P := owName) (q := .n (kindQ K)) (q' := toldQ (kindQ K)) (c := 32) rfl rfl (fun _ => rfl) (fun _ => rfl))
  have l2 := nmS_le (l := l) owName w.2 l1.2
  try simp only at h2
  generalize nmS l owName w.1 w.2 = n at h2 l2 ⊢
  have h3 := Gs.bind (F := fun p no => wordS l [32] p no) h2 (word_no _ _ _) (fun _ => gs_word1 32 _ _)
  have l3 := wordS_le l [32] n.1 n.2 l2.2
  try simp only at h3
  generalize wordS l [32] n.1 n.2 = b at h3 l3 ⊢
  have h0 : (otextS l K b.1 true).2 = (b.1, true) := by
    rcases hK with rfl | rfl | rfl
    · simp [otextS, someS]
    · simp [otextS, someS]
    · exact ink_no (l := l) 10 inH 110 b.1
  have h4 := Gs.bind (F := fun p no => (otextS l K p no).2) h3 h0 (fun _ => gs_text l3.2 hK)
  try simp only at h4
  generalize otextS l K b.1 b.2 = t at h4 ⊢
  exact Gs.bind (F := fun p no => wordS l [10] p no) h4 (word_no _ _ _) (fun _ => gs_word1 10 _ _)
theorem gs_headed {c : UInt8} {cs : List UInt8} {qs : List OQ} {q0 q q' : OQ} {a : Nat} (hb : isB l a false c.toNat = true) (hst : stO q0 c.toNat = some q) (h1 : qs.length + 1 = cs.length) (h2 : ∀ i (hi : i < cs.length), acO ((q :: qs).getD i q) = false ∧ stO ((q :: qs).getD i q) (cs[i].toNat) = some ((qs ++ [q']).getD i q) ∧ ∀ d : Int, d ≠ cs[i].toNat → stO ((q :: qs).getD i q) d = none) : Gs (W l q0 a) (wordS l (c :: cs) a false) (W l q') := by
  have hk := isB_iff.1 hb
  rw [word_head hb]
  have : W l q0 a = W l q (a + 1) := vd_yes hk.1 (by rw [hk.2]; exact hst)
  rw [this]
  exact gs_wordQ h1 h2
theorem gs_line {a : Nat} (ha : a ≤ l.length) : Gs (W l .line a) (olineS l a).2 (if (olineS l a).1.2 = true then W l .e1 else W l .line) := by
  unfold olineS
  cases k : isB l a false 35
  · rw [if_neg (by simp)]
    exact gs_samp ha k
  · rw [if_pos rfl]
    have h1 : Gs (W l .line a) (wordS l wHash a false) (W l .h2) := gs_headed (c := 35) (cs := [32]) (qs := []) (q := .h1) k rfl rfl (fun i hi => by
      match i, hi with
      | 0, _ => exact ⟨rfl, rfl, fun d hd => if_neg hd⟩)
    have l1 := wordS_le l wHash a false ha
    simp only
    generalize wordS l wHash a false = w at h1 l1 ⊢
    obtain ⟨p, np⟩ := w
    cases np
    · unfold Gs at h1
      rw [if_neg (by simp)] at h1
      simp only at h1 l1 ⊢
      rw [h1]
      cases k1 : isB l p false 84
      · rw [if_neg (by simp)]
        cases k2 : isB l p false 85
        · rw [if_neg (by simp)]
          cases k3 : isB l p false 72
          · rw [if_neg (by simp)]
            simp only [if_true]
            cases k4 : isB l p false 69
            · have e : wordS l wEOF p false = (p, true) := by
                unfold wEOF wordS; rw [if_neg (by simp)]
                have k5 : isB l p false ((69 : UInt8).toNat : Int) = false := k4
                rw [k5]; simp
              rw [e]
              unfold Gs
              rw [if_pos rfl]
              by_cases hp : p < l.length
              · refine vd_no hp ?_
                show (if _ = 84 then _ else if _ = 85 then _ else if _ = 72 then _ else if _ = 69 then _ else _) = _
                rw [if_neg (isB_f k1 hp), if_neg (isB_f k2 hp), if_neg (isB_f k3 hp), if_neg (isB_f k4 hp)]
              · exact vd_end (by omega) rfl
            · exact gs_headed (c := 69) (cs := [79, 70]) (qs := [.eF]) (q := .eO) k4 rfl rfl (fun i hi => by
                match i, hi with
                | 0, _ => exact ⟨rfl, rfl, fun d hd => if_neg hd⟩
                | 1, _ => exact ⟨rfl, rfl, fun d hd => if_neg hd⟩)
          · rw [if_pos rfl]
            exact gs_told (K := 3) l1.2 (.inr (.inr rfl)) (gs_headed (c := 72) (cs := [69, 76, 80, 32]) (qs := [.hL, .hP, .hS]) (q := .hE) k3 rfl rfl (fun i hi => by
              match i, hi with
              | 0, _ => exact ⟨rfl, rfl, fun d hd => if_neg hd⟩
              | 1, _ => exact ⟨rfl, rfl, fun d hd => if_neg hd⟩
              | 2, _ => exact ⟨rfl, rfl, fun d hd => if_neg hd⟩
              | 3, _ => exact ⟨rfl, rfl, fun d hd => if_neg hd⟩))
        · rw [if_pos rfl]
          exact gs_told (K := 2) l1.2 (.inr (.inl rfl)) (gs_headed (c := 85) (cs := [78, 73, 84, 32]) (qs := [.uI, .uT, .uS]) (q := .uN) k2 rfl rfl (fun i hi => by
            match i, hi with
            | 0, _ => exact ⟨rfl, rfl, fun d hd => if_neg hd⟩
            | 1, _ => exact ⟨rfl, rfl, fun d hd => if_neg hd⟩
            | 2, _ => exact ⟨rfl, rfl, fun d hd => if_neg hd⟩
            | 3, _ => exact ⟨rfl, rfl, fun d hd => if_neg hd⟩))
      · rw [if_pos rfl]
        exact gs_told (K := 1) l1.2 (.inl rfl) (gs_headed (c := 84) (cs := [89, 80, 69, 32]) (qs := [.tP, .tE, .tS]) (q := .tY) k1 rfl rfl (fun i hi => by
          match i, hi with
          | 0, _ => exact ⟨rfl, rfl, fun d hd => if_neg hd⟩
          | 1, _ => exact ⟨rfl, rfl, fun d hd => if_neg hd⟩
          | 2, _ => exact ⟨rfl, rfl, fun d hd => if_neg hd⟩
          | 3, _ => exact ⟨rfl, rfl, fun d hd => if_neg hd⟩))
    · simp only [isB_no, Bool.false_eq_true, if_false]
      rw [word_no]
      unfold Gs at h1 ⊢
      rw [if_pos rfl] at h1 ⊢
      exact h1
/-- What stands behind the last line. -/
theorem v_end {p : Nat} (hp : p ≤ l.length) : W l .e1 p = if (oendS l p false).2 = true then ((oendS l p false).1 : Int) else -1 := by
  by_cases h : p = l.length
  · have he : (p == l.length) = true := by rw [beq_iff_eq]; exact h
    rw [oend_at l p he, if_neg (by simp)]
    exact vd_acc (by omega) rfl
  · have he : (p == l.length) = false := by rw [beq_eq_false_iff_ne]; exact h
    have hlt : p < l.length := by omega
    cases k : isB l p false ((10 : UInt8).toNat : Int)
    · have hn := isB_f k hlt
      have hw : wordS l [10] p false = (p, true) := by rw [word1, k]; rfl
      rw [oend_word l p he hw, he, if_pos (by simp)]
      exact vd_no hlt (if_neg hn)
    · have hk := isB_iff.1 k
      have hw : wordS l [10] p false = (p + 1, false) := by rw [word1, k]; rfl
      rw [oend_word l p he hw]
      have h2 : W l .e1 p = W l .e2 (p + 1) := vd_yes hlt (by rw [hk.2]; rfl)
      rw [h2]
      by_cases h3 : p + 1 = l.length
      · have he2 : (p + 1 == l.length) = true := by rw [beq_iff_eq]; exact h3
        rw [he2]
        simp only [if_true, Bool.false_eq_true, if_false]
        exact vd_acc (by omega) rfl
      · have he2 : (p + 1 == l.length) = false := by rw [beq_eq_false_iff_ne]; exact h3
        rw [he2]
        simp only [if_true, Bool.false_eq_true, if_false]
        exact vd_no (by omega) rfl
theorem v_orows : ∀ f a acc, l.length < f + a → a ≤ l.length → W l .line a = if (oendS l (orowsGo l f a acc).2.1 (orowsGo l f a acc).2.2).2 = true then ((oendS l (orowsGo l f a acc).2.1 (orowsGo l f a acc).2.2).1 : Int) else -1
  | 0, a, acc, hf, hl => by omega
  | f + 1, a, acc, hf, hl => by
    have hv := gs_line (l := l) hl
    have hle := olineS_le (l := l) hl
    have hlt := oline_lt (l := l) hl
    unfold Gs at hv
    cases h1 : (olineS l a).1.2
    · rw [h1] at hv hlt
      cases h2 : (olineS l a).2.2
      · rw [h2] at hv hlt
        have e : orowsGo l (f + 1) a acc = orowsGo l f (olineS l a).2.1 (acc ++ (olineS l a).1.1.toList) := by
          conv => lhs; unfold orowsGo
          rw [h1, h2, if_neg (by simp), if_neg (by simp)]
        rw [e]
        simp only [Bool.false_eq_true, if_false] at hv
        rw [hv]
        exact v_orows f _ _ (by have := hlt rfl rfl; omega) hle.2
      · rw [h2, if_pos rfl] at hv
        have e : (orowsGo l (f + 1) a acc).2 = ((olineS l a).2.1, true) := by
          unfold orowsGo
          rw [h1, h2, if_neg (by simp), if_pos rfl]
        rw [e]
        simp only [oend_no, if_true]
        exact hv
    · rw [h1] at hv
      have e : (orowsGo l (f + 1) a acc).2 = (olineS l a).2 := by
        unfold orowsGo
        rw [h1, if_pos rfl]
      rw [e]
      cases h2 : (olineS l a).2.2
      · rw [h2] at hv
        simp only [Bool.false_eq_true, if_false, if_true] at hv
        rw [hv]
        exact v_end hle.2
      · rw [h2, if_pos rfl] at hv
        simp only [oend_no, if_true]
        exact hv
theorem openBad_eq (l : List UInt8) : openBad l = vdGo stO acO .line l 0 := by
  unfold openBad openRows
  simp only
  rw [← v_orows (l.length + 2) 0 [] (by omega) (by omega)]
  rfl
theorem openBad_bd (l : List UInt8) : -1 ≤ openBad l ∧ openBad l ≤ l.length := by
  rw [openBad_eq]
  have := vdGo_bd (st := stO) (ac := acO) l OQ.line 0
  omega
theorem openBad_far {l : List UInt8} {k : Nat} (h : openBad l = (k : Int)) (hk : k < l.length) (e : List UInt8) : openBad (l.take (k + 1) ++ e) = k := by
  rw [openBad_eq] at h ⊢
  exact vdGo_far l OQ.line 0 k h (by omega) e
theorem openBad_pre {l : List UInt8} {k : Nat} (h : openBad l = (k : Int)) : openBad (l.take k) = k ∨ openBad (l.take k) = -1 := by
  rw [openBad_eq] at h ⊢
  exact vdGo_pre l OQ.line k h
end
/-- Bytes that stand in a text at a place. -/
def standsL (l : List UInt8) (a : Nat) (t : List UInt8) : Prop := a + t.length ≤ l.length ∧ cutL l a (a + t.length) = t
def TagOk (l : List UInt8) (at_ : Nat) (t : MTag) : Prop :=
  at_ < t.off ∧ standsL l t.off t.name.data.toList ∧ standsL l (t.off + t.name.size) wEq ∧ t.pos = t.off + t.name.size + 2
def TagsOk (l : List UInt8) : Nat → List MTag → Prop
  | _, [] => True
  | a, t :: ts => TagOk l a t ∧ TagsOk l t.pos ts
def tagsEnd : Nat → List MTag → Nat
  | a, [] => a
  | _, t :: ts => tagsEnd t.pos ts
structure RowOk (l : List UInt8) (a : Nat) (r : MRow) : Prop where
  off : a ≤ r.off
  name : standsL l r.off r.name.data.toList
  pos : r.off + r.name.size ≤ r.pos
  text : r.kind = 3 ∨ standsL l r.pos r.text.data.toList
  tags : TagsOk l (r.off + r.name.size) r.tags
  fin : tagsEnd (r.off + r.name.size) r.tags < r.pos
  timed : r.timed = true → r.pos < r.when_ ∧ standsL l (r.when_ - 1) (32 :: (r.time.data.toList ++ [10]))
  not_ : r.timed = false → r.when_ = 0 ∧ r.time = mkS []
  kind : r.kind ≤ 3
def rowEnd (r : MRow) : Nat := max r.pos r.when_
def RowsOk (l : List UInt8) : Nat → List MRow → Prop
  | _, [] => True
  | a, r :: rs => RowOk l a r ∧ RowsOk l (rowEnd r) rs
def rowsEnd : Nat → List MRow → Nat
  | a, [] => a
  | _, r :: rs => rowsEnd (rowEnd r) rs
section
variable {l : List UInt8}
theorem stands_nil {a : Nat} (h : a ≤ l.length) : standsL l a [] := ⟨by simpa using h, by simp [cutL]⟩
theorem stands_cut {a b : Nat} (h : a ≤ b) (hb : b ≤ l.length) : standsL l a (cutL l a b) := by
  unfold standsL
  rw [cutL_len l a b hb, show a + (b - a) = b by omega]
  exact ⟨hb, rfl⟩
theorem cutL_app {a b c : Nat} (h : a ≤ b) (h2 : b ≤ c) : cutL l a c = cutL l a b ++ cutL l b c := by
  unfold cutL
  rw [show c - a = (b - a) + (c - b) by omega, List.take_add, List.drop_drop, show a + (b - a) = b by omega]
theorem stands_app {a : Nat} {t u : List UInt8} (h : standsL l a t) (h2 : standsL l (a + t.length) u) : standsL l a (t ++ u) := by
  refine ⟨by have := h2.1; rw [List.length_append]; omega, ?_⟩
  rw [List.length_append, cutL_app (b := a + t.length) (by omega) (by omega), h.2, ← Nat.add_assoc, h2.2]
theorem stands_one {a : Nat} {c : UInt8} (h : isB l a false c.toNat = true) : standsL l a [c] := by
  obtain ⟨h1, _, h2⟩ := isB_lt h
  refine ⟨by simp; omega, ?_⟩
  unfold cutL
  rw [List.drop_eq_getElem_cons h1]
  rw [bt_get h1] at h2
  have h3 : l[a].toNat = c.toNat := by omega
  simp [UInt8.toNat_inj.1 h3]
theorem r_wno (w : List UInt8) (a : Nat) : wordS l w a true = (a, true) := by cases w <;> simp [wordS]
theorem word_stands : ∀ (w : List UInt8) {a : Nat} {no : Bool}, a ≤ l.length → (wordS l w a no).2 = false → no = false ∧ (wordS l w a no).1 = a + w.length ∧ standsL l a w
  | w, a, true, _, h => by rw [r_wno] at h; cases h
  | [], a, false, ha, _ => ⟨rfl, rfl, stands_nil ha⟩
  | c :: cs, a, false, ha, h => by
    unfold wordS at h ⊢
    rw [if_neg (by decide)] at h ⊢
    split at h
    · rename_i hi
      rw [if_pos hi]
      obtain ⟨_, h2, h3⟩ := word_stands cs (by have := (isB_lt hi).1; omega) h
      refine ⟨rfl, by rw [h2, List.length_cons]; omega, ?_⟩
      have := stands_app (stands_one hi) (by simpa using h3)
      simpa using this
    · cases h
theorem r_some_no {p : Int → Bool} {a : Nat} {no : Bool} (h : (someS l p a no).2 = false) : no = false := by
  unfold someS at h
  split at h
  · cases h
  · rename_i h1; simpa using h1
theorem r_nm_no {p : Int → Bool} {a : Nat} {no : Bool} (h : (nmS l p a no).2 = false) : no = false := by
  have := r_some_no h
  cases no <;> simp_all
theorem r_some_lt {p : Int → Bool} {a : Nat} {no : Bool} (ha : a ≤ l.length) (h : (someS l p a no).2 = false) : a < (someS l p a no).1 := by
  have h1 := r_some_no h
  subst h1
  have := (whA_le l p a ha).1
  simp [someS] at h ⊢
  omega
theorem r_dec_no {a : Nat} {no : Bool} (h : (decS l a no).2 = false) : no = false := by
  unfold decS numS at h
  cases no
  · rfl
  · simp at h
theorem r_ink_no {e n : Int} {m : List UInt8} {a : Nat} {no : Bool} (h : (ink l e m n a no).2.2 = false) : no = false := by
  unfold ink at h
  cases no
  · rfl
  · simp at h
theorem r_tags_no {a : Nat} {no : Bool} (h : (otagsS l a no).2.2 = false) : no = false := by
  unfold otagsS at h
  cases no
  · rfl
  · simp [isB_no] at h
theorem mkS_bytes (x : List UInt8) : (mkS x).data.toList = x := rfl
theorem mkS_size' (x : List UInt8) : (mkS x).size = x.length := rfl
theorem r_otag_ok {a b : Nat} (ha : a ≤ l.length) (hb : b < a) (h : (otagS l a false).2.2 = false) : TagOk l b (otagS l a false).1 ∧ (otagS l a false).1.pos < (otagS l a false).2.1 ∧ (otagS l a false).2.1 ≤ l.length := by
  have hle := (otagS_le (l := l) false ha).2
  unfold otagS at h hle ⊢
  simp only at h hle ⊢
  have h1 := nmS_le (l := l) owLabel false ha
  generalize hk : nmS l owLabel a false = k at h h1 hle ⊢
  have h2 := wordS_le l wEq k.1 k.2 h1.2
  generalize he : wordS l wEq k.1 k.2 = e at h h2 hle ⊢
  have h3 := ink_le l 34 inV 110 e.1 e.2 h2.2
  generalize hv : ink l 34 inV 110 e.1 e.2 = v at h h3 hle ⊢
  have q1 := word_stands [34] h3.2.1 h
  have e2 : e.2 = false := r_ink_no (l := l) (a := e.1) (by rw [hv]; exact q1.1)
  have q2 := word_stands wEq h1.2 (by rw [he]; exact e2)
  have hl : (cutL l a k.1).length = k.1 - a := cutL_len l a _ h1.2
  have h5 : a + (k.1 - a) = k.1 := by omega
  refine ⟨⟨hb, ?_, ?_, ?_⟩, ?_, hle⟩
  · exact stands_cut h1.1 h1.2
  · simp only [mkS_size', hl, h5]; exact q2.2.2
  · simp only [mkS_size', hl, h5]; rw [← he, q2.2.1]; rfl
  · rw [q1.2.1]; simp; omega
theorem tagsOk_app {b : Nat} : ∀ {x y : List MTag}, TagsOk l b x → TagsOk l (tagsEnd b x) y → TagsOk l b (x ++ y)
  | [], y, _, h => h
  | t :: ts, y, h, h2 => ⟨h.1, tagsOk_app (x := ts) h.2 h2⟩
theorem tagsEnd_app {b : Nat} : ∀ {x y : List MTag}, tagsEnd b (x ++ y) = tagsEnd (tagsEnd b x) y
  | [], y => rfl
  | t :: ts, y => tagsEnd_app (b := t.pos) (x := ts)
theorem otagsGo_ok : ∀ (f a b : Nat) (no : Bool) (acc : List MTag), a ≤ l.length → TagsOk l b acc → tagsEnd b acc < a → (otagsGo l f a no acc).2.2 = false → TagsOk l b (otagsGo l f a no acc).1 ∧ tagsEnd b (otagsGo l f a no acc).1 < (otagsGo l f a no acc).2.1
  | 0, a, b, no, acc, ha, h1, h2, h => by cases h
  | f + 1, a, b, no, acc, ha, h1, h2, h => by
    unfold otagsGo at h ⊢
    split at h
    · cases h
    rename_i hno
    rw [if_neg hno]
    split at h
    · rename_i hi
      rw [if_pos hi]
      have hi2 := isB_lt hi
      obtain ⟨k1, k2, k3⟩ := r_otag_ok ha h2 hi2.2.1
      exact otagsGo_ok f _ b false _ (by omega) (tagsOk_app h1 ⟨k1, trivial⟩) (by rw [tagsEnd_app]; show (otagS l a false).1.pos < _; omega) h
    · rename_i hi
      rw [if_neg hi]
      obtain ⟨k1, k2, k3⟩ := r_otag_ok ha h2 h
      exact ⟨tagsOk_app h1 ⟨k1, trivial⟩, by rw [tagsEnd_app]; exact k2⟩
theorem r_otags_ok {a : Nat} {no : Bool} (ha : a ≤ l.length) (h : (otagsS l a no).2.2 = false) : TagsOk l a (otagsS l a no).1 ∧ tagsEnd a (otagsS l a no).1 ≤ (otagsS l a no).2.1 := by
  unfold otagsS at h ⊢
  split
  · rename_i hi
    rw [if_pos hi] at h
    have := (isB_lt hi).1
    split
    · exact ⟨trivial, by show a ≤ a + 2; omega⟩
    · rename_i hj
      rw [if_neg hj] at h
      simp only at h ⊢
      have h1 := otagsGo_le (l := l) (l.length + 1) (a + 1) false [] (by omega)
      have q := word_stands [125] h1.2 h
      have k := otagsGo_ok (l.length + 1) (a + 1) a false [] (by omega) trivial (by show a < a + 1; omega) q.1
      refine ⟨k.1, ?_⟩
      rw [q.2.1]
      have := k.2
      omega
  · exact ⟨trivial, Nat.le_refl _⟩
theorem r_samp_ok {a b : Nat} (ha : a ≤ l.length) (hb : b ≤ a) (h : (sampS l a false).2.2 = false) : RowOk l b (sampS l a false).1 ∧ rowEnd (sampS l a false).1 ≤ (sampS l a false).2.1 := by
  have hle := (sampS_le (l := l) false ha).2
  unfold sampS at h hle ⊢
  simp only at h hle ⊢
  have h1 := nmS_le (l := l) owName false ha
  generalize hn : nmS l owName a false = n at h h1 hle ⊢
  have h2 := otagsS_le (l := l) n.2 h1.2
  have T := r_otags_ok (l := l) (a := n.1) (no := n.2) h1.2
  generalize ht : otagsS l n.1 n.2 = t at h h2 hle T ⊢
  have h3 := wordS_le l [32] t.2.1 t.2.2 h2.2
  have W := word_stands (l := l) [32] (a := t.2.1) (no := t.2.2) h2.2
  generalize hw : wordS l [32] t.2.1 t.2.2 = w at h h3 hle W ⊢
  have h4 := decS_le l w.1 w.2 h3.2
  have D := r_dec_no (l := l) (a := w.1) (no := w.2)
  generalize hd : decS l w.1 w.2 = d at h h4 hle D ⊢
  have hl : (cutL l a n.1).length = n.1 - a := cutL_len l a _ h1.2
  have h5 : a + (n.1 - a) = n.1 := by omega
  have key : d.2 = false → TagsOk l n.1 t.1 ∧ tagsEnd n.1 t.1 < w.1 := by
    intro hd2
    have W2 := W (D hd2)
    have T2 := T W2.1
    exact ⟨T2.1, by rw [W2.2.1]; have := T2.2; simp; omega⟩
  split at h
  · rename_i hi
    rw [if_pos hi] at hle ⊢
    simp only at h hle ⊢
    have hi2 := isB_lt hi
    have h6 := decS_le l (d.1 + 1) false (by omega)
    generalize decS l (d.1 + 1) false = z at h h6 hle ⊢
    have Z := word_stands [10] h6.2 h
    obtain ⟨k1, k2⟩ := key hi2.2.1
    refine ⟨⟨hb, stands_cut h1.1 h1.2, ?_, .inr (stands_cut h4.1 h4.2), ?_, ?_, fun _ => ⟨by simp only; omega, ?_⟩, fun q => (by cases q), Nat.zero_le _⟩, ?_⟩
    · simp only [mkS_size', hl]; omega
    · simp only [mkS_size', hl, h5]; exact k1
    · simp only [mkS_size', hl, h5]; exact k2
    · simp only [Nat.add_sub_cancel, mkS_bytes]
      have hi' : isB l d.1 false ((32 : UInt8).toNat : Int) = true := by rw [← hi2.2.1]; exact hi
      have s1 := stands_one hi'
      have s2 := stands_cut (l := l) h6.1 h6.2
      have hzl : (cutL l (d.1 + 1) z.1).length = z.1 - (d.1 + 1) := cutL_len l _ _ h6.2
      have s3 := stands_app s2 (u := [10]) (by rw [hzl, show d.1 + 1 + (z.1 - (d.1 + 1)) = z.1 by omega]; exact Z.2.2)
      exact stands_app s1 s3
    · unfold rowEnd
      simp only
      rw [Z.2.1]
      simp
      omega
  · rename_i hi
    rw [if_neg hi] at hle ⊢
    simp only at h hle ⊢
    have Z := word_stands [10] h4.2 h
    obtain ⟨k1, k2⟩ := key Z.1
    refine ⟨⟨hb, stands_cut h1.1 h1.2, ?_, .inr (stands_cut h4.1 h4.2), ?_, ?_, fun q => (by cases q), fun _ => ⟨rfl, rfl⟩, Nat.zero_le _⟩, ?_⟩
    · simp only [mkS_size', hl]; omega
    · simp only [mkS_size', hl, h5]; exact k1
    · simp only [mkS_size', hl, h5]; exact k2
    · unfold rowEnd
      simp only
      rw [Z.2.1]
      simp
      omega
theorem r_told_ok {kind a b : Nat} {word : List UInt8} (hk : kind = 1 ∨ kind = 2 ∨ kind = 3) (ha : a ≤ l.length) (hb : b ≤ a) {no : Bool} (h : (otoldS l kind word a no).2.2 = false) : RowOk l b (otoldS l kind word a no).1 ∧ rowEnd (otoldS l kind word a no).1 ≤ (otoldS l kind word a no).2.1 := by
  unfold otoldS at h ⊢
  simp only at h ⊢
  have h1 := wordS_le l word a no ha
  generalize hw : wordS l word a no = w at h h1 ⊢
  have h2 := nmS_le (l := l) owName w.2 h1.2
  generalize hn : nmS l owName w.1 w.2 = n at h h2 ⊢
  have h3 := wordS_le l [32] n.1 n.2 h2.2
  have B := word_stands (l := l) [32] (a := n.1) (no := n.2) h2.2
  generalize hbb : wordS l [32] n.1 n.2 = z at h h3 B ⊢
  have h4 := otextS_le (l := l) (kind := kind) z.2 h3.2
  have T : (otextS l kind z.1 z.2).2.2 = false → z.2 = false ∧ (kind = 3 ∨ standsL l z.1 (otextS l kind z.1 z.2).1) := by
    intro q
    rcases hk with rfl | rfl | rfl
    · simp only [otextS, if_true] at q ⊢
      have := r_some_no q
      have := someS_le l smB z.1 z.2 h3.2
      exact ⟨by assumption, .inr (stands_cut this.1 this.2)⟩
    · simp only [otextS, if_true, Nat.reduceEqDiff, if_false] at q ⊢
      have := r_some_no q
      have := someS_le l owName z.1 z.2 h3.2
      exact ⟨by assumption, .inr (stands_cut this.1 this.2)⟩
    · simp only [otextS, Nat.reduceEqDiff, if_false] at q ⊢
      exact ⟨r_ink_no q, .inl trivial⟩
  generalize otextS l kind z.1 z.2 = t at h h4 T ⊢
  have L := word_stands [10] h4.2 h
  obtain ⟨k1, k2⟩ := T L.1
  have k3 := B k1
  have hl : (cutL l w.1 n.1).length = n.1 - w.1 := cutL_len l _ _ h2.2
  have k4 : z.1 = n.1 + 1 := k3.2.1
  refine ⟨⟨by simp only; omega, stands_cut h2.1 h2.2, ?_, k2, trivial, ?_, fun q => (by cases q), fun _ => ⟨rfl, rfl⟩, by (simp only); omega⟩, ?_⟩
  · simp only [mkS_size', hl]; omega
  · simp only [mkS_size', hl, tagsEnd]; omega
  · unfold rowEnd
    simp only
    rw [L.2.1]
    simp
    omega
theorem r_oline_ok {a b : Nat} (ha : a ≤ l.length) (hb : b ≤ a) (h : (olineS l a).2.2 = false) : ((olineS l a).1.2 = false ∧ ∃ r, (olineS l a).1.1 = some r ∧ RowOk l b r ∧ rowEnd r ≤ (olineS l a).2.1) ∨ ((olineS l a).1.2 = true ∧ (olineS l a).1.1 = none) := by
  unfold olineS at h ⊢
  split
  · rename_i hq
    rw [if_pos hq] at h
    have h1 := wordS_le l wHash a false ha
    simp only at h ⊢
    generalize wordS l wHash a false = w at h h1 ⊢
    split
    · rename_i h2
      rw [if_pos h2] at h
      have := r_told_ok (.inl rfl) h1.2 (Nat.le_trans hb h1.1) h
      exact .inl ⟨rfl, _, rfl, this⟩
    rename_i h2
    rw [if_neg h2] at h
    split
    · rename_i h3
      rw [if_pos h3] at h
      have := r_told_ok (.inr (.inl rfl)) h1.2 (Nat.le_trans hb h1.1) h
      exact .inl ⟨rfl, _, rfl, this⟩
    rename_i h3
    rw [if_neg h3] at h
    split
    · rename_i h4
      rw [if_pos h4] at h
      have := r_told_ok (.inr (.inr rfl)) h1.2 (Nat.le_trans hb h1.1) h
      exact .inl ⟨rfl, _, rfl, this⟩
    · exact .inr ⟨rfl, rfl⟩
  · rename_i hq
    rw [if_neg hq] at h
    exact .inl ⟨rfl, _, rfl, r_samp_ok ha hb h⟩
theorem rowsOk_app {b : Nat} : ∀ {x y : List MRow}, RowsOk l b x → RowsOk l (rowsEnd b x) y → RowsOk l b (x ++ y)
  | [], y, _, h => h
  | t :: ts, y, h, h2 => ⟨h.1, rowsOk_app (x := ts) h.2 h2⟩
theorem rowsEnd_app {b : Nat} : ∀ {x y : List MRow}, rowsEnd b (x ++ y) = rowsEnd (rowsEnd b x) y
  | [], y => rfl
  | t :: ts, y => rowsEnd_app (b := rowEnd t) (x := ts)
theorem orowsGo_ok : ∀ (f a : Nat) (acc : List MRow), a ≤ l.length → RowsOk l 0 acc → rowsEnd 0 acc ≤ a → (orowsGo l f a acc).2.2 = false → RowsOk l 0 (orowsGo l f a acc).1 ∧ rowsEnd 0 (orowsGo l f a acc).1 ≤ l.length
  | 0, a, acc, ha, h1, h2, h => by cases h
  | f + 1, a, acc, ha, h1, h2, h => by
    have hle := olineS_le (l := l) ha
    have hok := r_oline_ok ha h2
    unfold orowsGo at h ⊢
    split at h
    · rename_i h3
      rw [if_pos h3]
      rcases hok h with ⟨q, _⟩ | ⟨_, q⟩
      · rw [q] at h3; cases h3
      · rw [q]; simp only [Option.toList, List.append_nil]; exact ⟨h1, by omega⟩
    · rename_i h3
      rw [if_neg h3]
      split at h
      · cases h
      · rename_i h4
        rw [if_neg h4]
        rcases hok (by simpa using h4) with ⟨_, r, hr, k1, k2⟩ | ⟨q, _⟩
        · rw [hr] at h ⊢
          simp only [Option.toList] at h ⊢
          exact orowsGo_ok f _ _ hle.2 (rowsOk_app h1 ⟨k1, trivial⟩) (by rw [rowsEnd_app]; exact k2) h
        · exact absurd q h3
theorem open_rows (h : (openRows l).2.2 = false) : RowsOk l 0 (openRows l).1 ∧ rowsEnd 0 (openRows l).1 ≤ l.length := by
  unfold openRows at h ⊢
  simp only at h ⊢
  refine orowsGo_ok (l.length + 2) 0 [] (Nat.zero_le _) trivial (Nat.le_refl _) ?_
  generalize (orowsGo l (l.length + 2) 0 []).2 = z at h
  obtain ⟨p, n⟩ := z
  cases n
  · rfl
  · simp [oendS] at h
end
set_option maxHeartbeats 1600000 in
theorem stands_any (s t : ByteArray) (a : Nat) (w : World) (hs : s.size ≤ 1048576) (h : standsL s.data.toList a t.data.toList) :
    Calls Tryd.prog 18 #[.string s, .int .i64 (a : Int), .string t] w fun e w' => e = .returned (.bool true) ∧ w' = w := by
  obtain ⟨h1, h2⟩ := h
  have hL : s.data.toList.length = s.size := by simp
  have hT : t.data.toList.length = t.size := by simp
  rw [hL, hT] at h1
  have h3 : s.extract a (a + t.size) = t := by
    apply bytes_ext
    rw [ext_bytes, ← hT]
    exact h2
  have d1 : decide ((0 : Int) ≤ a) = true := decide_eq_true (by omega)
  have d2 : decide ((a : Int) ≤ s.size) = true := decide_eq_true (by omega)
  have d3 : decide ((t.size : Int) ≤ (s.size : Int) - a) = true := decide_eq_true (by omega)
  have q1 : IntKind.i64.wrap ((s.size : Int) - a) = (s.size : Int) - a := IntWalk.i64_in _ (by omega)
  have q2 : IntKind.i64.wrap ((a : Int) + t.size) = (a : Int) + t.size := IntWalk.i64_in _ (by omega)
  have i0 : (0 : Int) ≤ a := by omega
  have i1 : (a : Int) ≤ (a : Int) + t.size := by omega
  have i2 : (a : Int) + t.size ≤ s.size := by omega
  have i3 : ((a : Int) + t.size).toNat = a + t.size := by omega
  clear hL hT h1 h2
  go_enter Tryd.func18, Tryd.ntmps18
  go_wp2_with fail
  go_ret
  exact ⟨rfl, rfl⟩
section
variable {l : List UInt8}
theorem tagsOk_at : ∀ {ts : List MTag} {b m : Nat} {t : MTag}, TagsOk l b ts → ts[m]? = some t → TagOk l (tagsEnd b (ts.take m)) t ∧ tagsEnd b (ts.take (m + 1)) = t.pos
  | [], _, _, _, _, h => by simp at h
  | x :: xs, b, 0, t, h, e => by
    simp at e; subst e
    exact ⟨h.1, by simp [tagsEnd]⟩
  | x :: xs, b, m + 1, t, h, e => by
    simp at e
    have := tagsOk_at h.2 e
    simpa [tagsEnd] using this
theorem rowsOk_at : ∀ {rs : List MRow} {b m : Nat} {r : MRow}, RowsOk l b rs → rs[m]? = some r → RowOk l (rowsEnd b (rs.take m)) r ∧ rowsEnd b (rs.take (m + 1)) = rowEnd r
  | [], _, _, _, _, h => by simp at h
  | x :: xs, b, 0, t, h, e => by
    simp at e; subst e
    exact ⟨h.1, by simp [rowsEnd]⟩
  | x :: xs, b, m + 1, t, h, e => by
    simp at e
    have := rowsOk_at h.2 e
    simpa [rowsEnd] using this
theorem tagsOk_len : ∀ {ts : List MTag} {b : Nat}, TagsOk l b ts → b + ts.length ≤ tagsEnd b ts
  | [], _, _ => Nat.le_refl _
  | x :: xs, b, h => by
    have h1 := tagsOk_len h.2
    have h2 := h.1.1
    have h3 := h.1.2.2.2
    simp only [List.length_cons, tagsEnd]
    omega
theorem rowsOk_len : ∀ {rs : List MRow} {b : Nat}, RowsOk l b rs → b + rs.length ≤ rowsEnd b rs
  | [], _, _ => Nat.le_refl _
  | x :: xs, b, h => by
    have h1 := rowsOk_len h.2
    have h2 := h.1.off
    have h3 := h.1.pos
    have h4 := tagsOk_len h.1.tags
    have h5 := h.1.fin
    have h6 : x.pos ≤ rowEnd x := Nat.le_max_left _ _
    simp only [List.length_cons, rowsEnd]
    omega
theorem rowsOk_end : ∀ {rs : List MRow} {b m : Nat} {r : MRow}, RowsOk l b rs → rs[m]? = some r → rowEnd r ≤ rowsEnd b rs
  | [], _, _, _, _, h => by simp at h
  | x :: xs, b, 0, r, h, e => by
    simp at e; subst e
    have := rowsOk_len h.2
    simp only [rowsEnd]
    omega
  | x :: xs, b, m + 1, r, h, e => by
    simp at e
    show rowEnd r ≤ rowsEnd (rowEnd x) xs
    exact rowsOk_end h.2 e
end
set_option maxRecDepth 100000 in
set_option maxHeartbeats 12800000 in
theorem stand17_any (s : ByteArray) (m : Int) (w : World) (hm : MxAt w m) (hs : s.size ≤ 9223372036854775807) :
    Calls Tryd.prog 7 #[.string s] w fun e w' => e = .returned (.bool true) ∧ Below w.heap.size w w' := by
  by_cases h1500 : 1500 < s.size
  · have hd1 : decide ((1500 : Int) < s.size) = true := decide_eq_true (by omega)
    go_enter Tryd.func7, Tryd.ntmps7
    go_wp2_with (go_at_call 8; refine (known17_any m _ hm).mono ?_; rintro e w1 ⟨rfl, hb1⟩)
    go_ret
    exact ⟨rfl, hb1⟩
  have hd1 : decide ((1500 : Int) < s.size) = false := decide_eq_false (by omega)
  have hz : s.size ≤ 1500 := by omega
  have kR := fun W => rows_any s W (by omega)
  have hok := open_rows (l := s.data.toList)
  have hL : s.data.toList.length = s.size := by simp
  have hbb : openBad s.data.toList = (if (openRows s.data.toList).2.2 then ((openRows s.data.toList).2.1 : Int) else -1) := rfl
  have kB := fun W => bad_any' s W (by omega)
  rw [hbb] at kB
  generalize openRows s.data.toList = R at kR hok kB
  clear hbb
  obtain ⟨rows, p, no⟩ := R
  cases no
  case true =>
    have hp0 : decide ((0 : Int) ≤ (p : Int)) = true := decide_eq_true (by omega)
    simp only [if_true] at kB
    clear hok hL
    go_enter Tryd.func7, Tryd.ntmps7
    go_wp2_with (first
      | (go_at_call 8; refine (known17_any m _ hm).mono ?_; rintro e w1 ⟨rfl, hb1⟩)
      | (go_at_call 9; (with_reducible refine (kR _).mono ?_); rintro e w2 ⟨⟨A, n, c, rfl, hR⟩, hb2⟩; obtain rfl : 0 = n := hR.len)
      | (go_at_call 11; (with_reducible refine (kB _).mono ?_); rintro e w3 ⟨rfl, hb3⟩))
    go_ret
    exact ⟨rfl, bl_any (bl_any hb1 hb2) hb3⟩
  case false =>
    have HOK := Lib.hid (hok rfl)
    have HL := Lib.hid hL
    clear hok hL kB
    go_enter Tryd.func7, Tryd.ntmps7
    go_wp2_with (first
      | (go_at_call 8; refine (known17_any m _ hm).mono ?_; rintro e w1 ⟨rfl, hb1⟩)
      | (go_at_call 9; (with_reducible refine (kR _).mono ?_); rintro e w2 ⟨⟨A, n, c, rfl, hR⟩, hb2⟩; have B2 := bl_any hb1 hb2; have HR : Hid (HasRows w2 w2.heap.size A n rows) := Lib.hid hR; clear hR hb1 hb2))
    clear kR
    have hn15 : n ≤ 1500 := by
      have h1 := rowsOk_len HOK.out.1
      have h2 := HOK.out.2
      rw [HL.out] at h2
      have := HR.out.len
      omega
    go_loopw [5, 6] (fun at_ i wr => Below w2.heap.size w2 wr ∧ ∃ k : Nat, k ≤ n ∧ i = .int .i64 k ∧ at_ = .int .i64 (rowsEnd 0 (rows.take k) : Nat)) (fun _ i _ => n - (intOf i).toNat)
    case atStart => exact ⟨Below.refl _ _, 0, by omega, rfl, rfl⟩
    case round =>
      obtain ⟨hbr, k, hk, rfl, rfl⟩ := hrel
      by_cases hlt : k < n
      case neg =>
        have hd : decide ((k : Int) < n) = false := decide_eq_false (by omega)
        have hfin : decide (((rowsEnd 0 (rows.take k) : Nat) : Int) ≤ s.size) = true := by
          have h1 := HOK.out.2
          rw [HL.out] at h1
          have h2 : rows.take k = rows := List.take_of_length_le (by have := HR.out.len; omega)
          rw [h2]
          exact decide_eq_true (by omega)
        generalize rowsEnd 0 (rows.take k) = at1 at hfin ⊢
        go_wp2_with fail
        go_ret
        exact ⟨ret_bool (by simpa using hfin), bl_any B2 hbr⟩
      case pos =>
        have hd : decide ((k : Int) < n) = true := decide_eq_true (by omega)
        have hi0 : (0 : Int) ≤ k := by omega
        have hi1 : (k : Int) < n := by omega
        obtain ⟨R, hRk⟩ : ∃ R, rows[k]? = some R := ⟨_, List.getElem?_eq_getElem (by rw [HR.out.len]; exact hlt)⟩
        obtain ⟨b1, off1, tA, tc, fA, fc, rfl, hb1, ⟨p0, p1, p2, p3, p4, p5, p6, p7, p8, p9⟩, ht1, _⟩ := (HR.out.below hbr).at_ hRk
        obtain ⟨hO, hE⟩ := rowsOk_at HOK.out.1 hRk
        have hps : R.pos ≤ 1500 := by
          have h1 := rowsOk_end HOK.out.1 hRk
          have h2 := HOK.out.2
          rw [HL.out] at h2
          have h3 : R.pos ≤ rowEnd R := Nat.le_max_left _ _
          omega
        have HE := Lib.hid hE
        clear hRk hE
        generalize rowsEnd 0 (rows.take k) = at1 at hO ⊢
        obtain ⟨K, nm, o, tags, flds, text, ps, timed, time, wh⟩ := R
        obtain ⟨o1, o2, o3, o4, o5, o6, o7, o8, o9⟩ := hO
        simp only at p0 p1 p2 p3 p4 p5 p6 p7 p8 p9 o1 o2 o3 o4 o5 o6 o7 o8 o9 ht1 hps
        have htl15 : tags.length ≤ 1500 := by
          have := tagsOk_len o5
          omega
        have hnm := o2.1
        rw [HL.out] at hnm
        have hnl : nm.data.toList.length = nm.size := by simp
        rw [hnl] at hnm
        have kN := fun W => stands_any s nm o W (by omega) o2
        have c1 : decide ((o : Int) < (at1 : Int)) = false := decide_eq_false (by omega)
        have c2 : decide ((ps : Int) < (o : Int) + nm.size) = false := decide_eq_false (by omega)
        have c1n : decide (o < at1) = false := decide_eq_false (by omega)
        have c1m : at1 ≤ o := by omega
        have c2n : decide (ps < o + nm.size) = false := decide_eq_false (by omega)
        have c2m : o + nm.size ≤ ps := by omega
        have q1 : IntKind.i64.wrap ((o : Int) + nm.size) = (o : Int) + nm.size := IntWalk.i64_in _ (by omega)
        have hz2 := hbr.size
        have hbl1 : b1 < wr.heap.size := by omega
        have kX : K = 3 ∨ (K ≠ 3 ∧ ∀ W, Calls Tryd.prog 18 #[.string s, .int .i64 (ps : Int), .string text] W fun e w' => e = .returned (.bool true) ∧ w' = W) := by
          by_cases hK : K = 3
          · exact .inl hK
          · exact .inr ⟨hK, fun W => stands_any s text ps W (by omega) (o4.resolve_left hK)⟩
        have HT := Lib.hid o5
        have HX := Lib.hid kX
        have H7 := Lib.hid o7
        have H8 := Lib.hid o8
        clear o1 o2 o3 o4 o5 o7 o8 o9 kX hnl
        obtain ⟨wo, rfl⟩ : ∃ wo, wo = wr := ⟨_, rfl⟩
        go_upto_region 13 with fail
        have hX := Blk.new wo 42 #[.int .i64 (K : Int), .string nm, .int .i64 (o : Int), .slice tA tags.length tc, .slice fA flds.length fc, .string text, .int .i64 (ps : Int), .bool timed, .string time, .int .i64 (wh : Int)]
        have hbx : Below w2.heap.size w2 (wo.alloc (.cells #[.int .i64 (K : Int), .string nm, .int .i64 (o : Int), .slice tA tags.length tc, .slice fA flds.length fc, .string text, .int .i64 (ps : Int), .bool timed, .string time, .int .i64 (wh : Int)] 42)) := hbr.alloc hz2 _
        have ht2 := ht1.below ((Below.refl w2.heap.size wo).alloc hz2 (.cells #[.int .i64 (K : Int), .string nm, .int .i64 (o : Int), .slice tA tags.length tc, .slice fA flds.length fc, .string text, .int .i64 (ps : Int), .bool timed, .string time, .int .i64 (wh : Int)] 42))
        generalize hWi : wo.alloc _ = wi at hX hbx ht2 ⊢
        generalize hgx : wo.heap.size = gx at hX ⊢
        have x0 := (Blk.cell hX 0).trans rfl
        have x1 := (Blk.cell hX 1).trans rfl
        have x2 := (Blk.cell hX 2).trans rfl
        have x3 := (Blk.cell hX 3).trans rfl
        have x5 := (Blk.cell hX 5).trans rfl
        have x6 := (Blk.cell hX 6).trans rfl
        have x7 := (Blk.cell hX 7).trans rfl
        have x8 := (Blk.cell hX 8).trans rfl
        have x9 := (Blk.cell hX 9).trans rfl
        clear p0 p1 p2 p3 p4 p5 p6 p7 p8 p9 ht1 hWi hd hi0 hi1
        obtain ⟨kq, hkq⟩ : ∃ q, ((K : Int) != 3) = q := ⟨_, rfl⟩
        have hkT : kq = true → ∀ W, Calls Tryd.prog 18 #[.string s, .int .i64 (ps : Int), .string text] W fun e w' => e = .returned (.bool true) ∧ w' = W := fun h => by
          rcases HX.out with rfl | ⟨_, hT⟩
          · rw [h] at hkq; exact absurd hkq (by decide)
          · exact hT
        clear HX
        cases kq
        all_goals
          first
            | (have kT := hkT rfl; clear hkT)
            | clear hkT
          go_upto_region 15 with (first
            | (go_at_call 18; (with_reducible refine (kN _).mono ?_); rintro e w3 ⟨rfl, hw3⟩; rw [hw3]; clear hw3 w3)
            | (go_at_call 18; (with_reducible refine (kT _).mono ?_); rintro e w3 ⟨rfl, hw3⟩; rw [hw3]; clear hw3 w3))
          go_wp2_with fail
          go_loopw [5, 8] (fun at_ j wr => Below wi.heap.size wi wr ∧ ∃ q : Nat, q ≤ tags.length ∧ j = .int .i64 q ∧ at_ = .int .i64 (tagsEnd (o + nm.size) (tags.take q) : Nat)) (fun _ j _ => tags.length - (intOf j).toNat)
          case atStart => exact ⟨Below.refl _ _, 0, by omega, rfl, rfl⟩
          case round =>
            clear x0 x1 x2 x3 x5 x6 x7 x8 x9
            obtain ⟨hbq, q, hq, rfl, rfl⟩ := hrel
            have hXq := hX.below hbq (Blk.lt hX)
            have x3 := (Blk.cell hXq 3).trans rfl
            by_cases hlq : q < tags.length
            case pos =>
              have hd : decide ((q : Int) < tags.length) = true := decide_eq_true (by omega)
              have hj0 : (0 : Int) ≤ q := by omega
              have hj1 : (q : Int) < tags.length := by omega
              have ht : tags[q]? = some (tags[q]'hlq) := List.getElem?_eq_getElem hlq
              obtain ⟨c1', o1', rfl, hc1, p0, p1, p2, p3⟩ := (ht2.below (hbq.mono hbx.size)).tag ht
              obtain ⟨⟨t1, t2, t3, t4⟩, hE2⟩ := tagsOk_at HT.out ht
              have HE2 := Lib.hid hE2
              clear hE2 ht
              generalize tags[q]'hlq = t at p0 p1 p2 p3 t1 t2 t3 t4 HE2
              generalize tagsEnd (o + nm.size) (tags.take q) = at2 at t1 ⊢
              have hc2 : c1' < wr.heap.size := by have := hbq.size; have := hbx.size; omega
              have hnl : t.name.data.toList.length = t.name.size := by simp
              have hw := t3.1
              rw [HL.out] at hw
              have hw2 : t.off + t.name.size + 2 ≤ s.size := hw
              have kA := fun W => stands_any s t.name t.off W (by omega) t2
              have kC : ∀ W, Calls Tryd.prog 18 #[.string s, .int .i64 ((t.off : Int) + t.name.size), .string ⟨#[61, 34]⟩] W fun e w' => e = .returned (.bool true) ∧ w' = W := fun W => stands_any s ⟨#[61, 34]⟩ (t.off + t.name.size) W (by omega) t3
              have e1 : decide ((t.off : Int) ≤ (at2 : Int)) = false := decide_eq_false (by omega)
              have e1n : decide (t.off ≤ at2) = false := decide_eq_false (by omega)
              have e1m : at2 < t.off := by omega
              have e2 : ((t.pos : Int) != (t.off : Int) + t.name.size + 2) = false := by rw [t4]; simp
              have r1 : IntKind.i64.wrap ((t.off : Int) + t.name.size) = (t.off : Int) + t.name.size := IntWalk.i64_in _ (by omega)
              have r2 : IntKind.i64.wrap ((t.off : Int) + t.name.size + 2) = (t.off : Int) + t.name.size + 2 := IntWalk.i64_in _ (by omega)
              clear t1 t2 t3 t4 hw hw2 hnl
              go_wp2_with (first
                | (go_at_call 18; (with_reducible refine (kA _).mono ?_); rintro e w3 ⟨rfl, hw3⟩; rw [hw3]; clear hw3 w3)
                | (go_at_call 18; (with_reducible refine (kC _).mono ?_); rintro e w3 ⟨rfl, hw3⟩; rw [hw3]; clear hw3 w3))
              exact ⟨⟨hbq.alloc hbq.size _, q + 1, by omega, rfl, by rw [HE2.out]⟩, by (simp only [intOf]; omega)⟩
            case neg =>
              have hd : decide ((q : Int) < tags.length) = false := decide_eq_false (by omega)
              have hfull : tags.take q = tags := List.take_of_length_le (by omega)
              rw [hfull]
              have x6 := (Blk.cell hXq 6).trans rfl
              have x7 := (Blk.cell hXq 7).trans rfl
              have x8 := (Blk.cell hXq 8).trans rfl
              have x9 := (Blk.cell hXq 9).trans rfl
              have e1 : decide ((ps : Int) ≤ (tagsEnd (o + nm.size) tags : Nat)) = false := decide_eq_false (by omega)
              have e1n : decide (ps ≤ tagsEnd (o + nm.size) tags) = false := decide_eq_false (by omega)
              have e1m : tagsEnd (o + nm.size) tags < ps := o6
              generalize tagsEnd (o + nm.size) tags = at2 at e1 e1n e1m ⊢
              cases timed
              case false =>
                obtain ⟨rfl, ht0⟩ := H8.out rfl
                have ht0 : time = ⟨#[]⟩ := ht0
                subst ht0
                go_wp2_with fail
                exact ⟨⟨hbx.trans (hbq.mono hbx.size), k + 1, by omega, rfl, by rw [HE.out]; simp [rowEnd]⟩, by (simp only [intOf]; omega)⟩
              case true =>
                obtain ⟨hpw, hst⟩ := H7.out rfl
                have hsl := hst.1
                rw [HL.out] at hsl
                have htl : time.data.toList.length = time.size := by simp
                simp only [List.length_cons, List.length_append, List.length_nil, htl] at hsl
                have kW : ∀ W, Calls Tryd.prog 18 #[.string s, .int .i64 ((wh : Int) - 1), .string (⟨#[32]⟩ ++ time ++ ⟨#[10]⟩)] W fun e w' => e = .returned (.bool true) ∧ w' = W := fun W => by
                  have := stands_any s (⟨#[32]⟩ ++ time ++ ⟨#[10]⟩) (wh - 1) W (by omega) (by rw [str_app, str_app]; exact hst)
                  rw [show ((wh - 1 : Nat) : Int) = (wh : Int) - 1 by omega] at this
                  exact this
                have e2 : decide ((wh : Int) ≤ (ps : Int)) = false := decide_eq_false (by omega)
                have e2n : decide (wh ≤ ps) = false := decide_eq_false (by omega)
                have e2m : ps < wh := hpw
                have r1 : IntKind.i64.wrap ((wh : Int) - 1) = (wh : Int) - 1 := IntWalk.i64_in _ (by omega)
                have z1 : ¬ 9223372036854775807 < 1 + time.size := by omega
                have z2 : ¬ 9223372036854775807 < 1 + time.size + 1 := by omega
                clear hst hsl htl
                go_wp2_with (go_at_call 18; (with_reducible refine (kW _).mono ?_); rintro e w3 ⟨rfl, hw3⟩; rw [hw3]; clear hw3 w3)
                exact ⟨⟨hbx.trans (hbq.mono hbx.size), k + 1, by omega, rfl, by rw [HE.out]; simp [rowEnd]; omega⟩, by (simp only [intOf]; omega)⟩
theorem take_snoc' (l : List UInt8) (k : Nat) (h : k < l.length) : l.take (k + 1) = l.take k ++ [l.getD k 0] := by
  rw [List.take_succ_eq_append_getElem h, List.getD_eq_getElem?_getD, List.getElem?_eq_getElem h]; rfl
theorem e17_len (q : Bool) (c : UInt8) : (e17 q c).length ≤ 2 := by
  unfold e17
  split
  · exact Nat.le_refl _
  split
  · exact Nat.le_refl _
  split
  · exact Nat.le_refl _
  · simp
theorem escQ_len (q : Bool) : ∀ v : List UInt8, (escQ q v).length ≤ 2 * v.length
  | [] => Nat.le_refl _
  | c :: v => by
    have h1 := escQ_len q v
    have h2 := e17_len q c
    have h3 : escQ q (c :: v) = e17 q c ++ escQ q v := by simp [escQ]
    rw [h3, List.length_append, List.length_cons]
    omega
set_option maxRecDepth 100000 in
set_option maxHeartbeats 3200000 in
theorem quote17_any (s : ByteArray) (q : Bool) (w : World) (hs : s.size ≤ 1048576) :
    Calls Tryd.prog 14 #[.string s, .bool q] w fun e w' => e = .returned (.string (mkS (escQ q s.data.toList))) ∧ w' = w := by
  have hL : s.data.toList.length = s.size := by simp
  obtain ⟨T, hT⟩ : ∃ T, mkS (escQ q s.data.toList) = T := ⟨_, rfl⟩
  rw [hT]
  have HT := Lib.hid hT
  clear hT
  go_enter Tryd.func14, Tryd.ntmps14
  go_wp2_with fail
  go_loopw [5, 6] (fun o i wr => wr = w ∧ ∃ k : Nat, k ≤ s.size ∧ i = .int .i64 k ∧ o = .string (mkS (escQ q (s.data.toList.take k)))) (fun _ i _ => s.size - (intOf i).toNat)
  case atStart => exact ⟨rfl, 0, by omega, rfl, rfl⟩
  case round =>
    obtain ⟨rfl, k, hk, rfl, rfl⟩ := hrel
    by_cases hlt : k < s.size
    · have hdk : decide ((k : Int) < s.size) = true := decide_eq_true (by omega)
      have hx := escQ_len q (s.data.toList.take k)
      rw [List.length_take, hL] at hx
      have hst : escQ q (s.data.toList.take (k + 1)) = escQ q (s.data.toList.take k) ++ e17 q (s[k]'hlt) := by
        rw [take_snoc' s.data.toList k (by omega), escQ_app, escQ_one]
        have hc0 : s.data.toList.getD k 0 = s[k]'hlt := by
          rw [List.getD_eq_getElem?_getD, List.getElem?_eq_getElem (by omega)]; rfl
        rw [hc0]
      have hk1 : (k : Int) < s.size := by omega
      have hk0 : (0 : Int) ≤ k := by omega
      have hk2 : (k : Int) ≤ (k : Int) + 1 := by omega
      have hk3 : (k : Int) + 1 ≤ s.size := by omega
      have hk4 : ((k : Int) + 1).toNat = k + 1 := by omega
      have he : s.extract k (k + 1) = mkS [s[k]'hlt] := by
        apply bytes_ext
        rw [ext_bytes, Nat.add_sub_cancel_left, List.drop_eq_getElem_cons (by omega), List.take_succ_cons, List.take_zero]; rfl
      have hsz : (mkS (escQ q (s.data.toList.take k))).size = (escQ q (s.data.toList.take k)).length := rfl
      have HS : Hid (∀ y, e17 q (s[k]'hlt) = y → mkS (escQ q (s.data.toList.take (k + 1))) = mkS (escQ q (s.data.toList.take k)) ++ mkS y) := Lib.hid (fun y h => by rw [hst, h, mk_app])
      have HE := Lib.hid he
      generalize mkS (escQ q (s.data.toList.take k)) = acc at hsz HS ⊢
      have hacz : acc.size ≤ 2 * 1048576 := by rw [hsz]; omega
      have hl0 : ¬ 9223372036854775807 < acc.size + (min (k + 1) s.size - k) := by omega
      have hl2 : ¬ 9223372036854775807 < acc.size + 2 := by omega
      clear hst hsz hx he
      by_cases h92 : s[k]'hlt = 92
      · have d1 : (((s[k]'hlt).toNat : Int) == 92) = true := by rw [h92]; rfl
        have HS2 := Lib.hid (HS.out [92, 92] (by rw [h92]; simp [e17]))
        clear HS HE h92
        go_wp2_with fail
        exact ⟨⟨trivial, k + 1, by omega, rfl, by rw [HS2.out]; rfl⟩, by (simp only [intOf]; omega)⟩
      have d1 : (((s[k]'hlt).toNat : Int) == 92) = false := by
        rw [beq_eq_false_iff_ne]; intro h; exact h92 (UInt8.toNat_inj.1 (by show _ = 92; omega))
      by_cases h10 : s[k]'hlt = 10
      · have d2 : (((s[k]'hlt).toNat : Int) == 34) = false := by rw [h10]; rfl
        have d3 : (((s[k]'hlt).toNat : Int) == 10) = true := by rw [h10]; rfl
        have HS2 := Lib.hid (HS.out [92, 110] (by rw [h10]; simp [e17]))
        clear HS HE h92 h10
        go_wp2_with fail
        exact ⟨⟨trivial, k + 1, by omega, rfl, by rw [HS2.out]; rfl⟩, by (simp only [intOf]; omega)⟩
      have d3 : (((s[k]'hlt).toNat : Int) == 10) = false := by
        rw [beq_eq_false_iff_ne]; intro h; exact h10 (UInt8.toNat_inj.1 (by show _ = 10; omega))
      by_cases h34 : s[k]'hlt = 34
      · have d2 : (((s[k]'hlt).toNat : Int) == 34) = true := by rw [h34]; rfl
        cases q
        · have HS2 := Lib.hid (HS.out [s[k]'hlt] (by rw [h34]; simp [e17]))
          rw [← HE.out] at HS2
          clear HS HE h92 h10 h34
          go_wp2_with fail
          exact ⟨⟨trivial, k + 1, by omega, rfl, by rw [HS2.out]⟩, by (simp only [intOf]; omega)⟩
        · have HS2 := Lib.hid (HS.out [92, 34] (by rw [h34]; simp [e17]))
          clear HS HE h92 h10 h34
          go_wp2_with fail
          exact ⟨⟨trivial, k + 1, by omega, rfl, by rw [HS2.out]; rfl⟩, by (simp only [intOf]; omega)⟩
      have d2 : (((s[k]'hlt).toNat : Int) == 34) = false := by
        rw [beq_eq_false_iff_ne]; intro h; exact h34 (UInt8.toNat_inj.1 (by show _ = 34; omega))
      have HS2 := Lib.hid (HS.out [s[k]'hlt] (by unfold e17; rw [if_neg h92, if_neg h10, if_neg (by simp [h34])]))
      rw [← HE.out] at HS2
      clear HS HE h92 h10 h34
      go_wp2_with fail
      exact ⟨⟨trivial, k + 1, by omega, rfl, by rw [HS2.out]⟩, by (simp only [intOf]; omega)⟩
    · have hdk : decide ((k : Int) < s.size) = false := decide_eq_false (by omega)
      obtain rfl : k = s.size := by omega
      rw [List.take_of_length_le (by omega), HT.out]
      go_wp2_with fail
      go_ret
      exact ⟨rfl, rfl⟩
theorem oline_fields {l : List UInt8} {a : Nat} {r : MRow} (h : (olineS l a).1.1 = some r) : r.fields = [] := by
  have hs : (sampS l a false).1.fields = [] := by unfold sampS; simp only; split <;> rfl
  unfold olineS at h
  split at h
  · simp only at h
    split at h
    · injection h with h; rw [← h]; rfl
    split at h
    · injection h with h; rw [← h]; rfl
    split at h
    · injection h with h; rw [← h]; rfl
    · cases h
  · injection h with h; rw [← h]; exact hs
theorem orows_fields {l : List UInt8} : ∀ (f a : Nat) (acc : List MRow), (∀ r ∈ acc, r.fields = []) → ∀ r ∈ (orowsGo l f a acc).1, r.fields = []
  | 0, a, acc, h, r, hr => h r hr
  | f + 1, a, acc, h, r, hr => by
    have h2 : ∀ r ∈ acc ++ (olineS l a).1.1.toList, r.fields = [] := fun r hr => by
      rcases List.mem_append.1 hr with hr | hr
      · exact h r hr
      · exact oline_fields (by simpa using hr)
    unfold orowsGo at hr
    split at hr
    · exact h2 r hr
    split at hr
    · exact h2 r hr
    · exact orows_fields f _ _ h2 r hr
theorem orows_small {l : List UInt8} (h : (openRows l).2.2 = false) : (openRows l).1.length ≤ l.length ∧ ∀ R ∈ (openRows l).1, R.tags.length ≤ l.length ∧ R.fields.length ≤ l.length := by
  obtain ⟨h1, h2⟩ := open_rows h
  refine ⟨by have := rowsOk_len h1; omega, fun R hR => ?_⟩
  obtain ⟨i, hi⟩ := List.mem_iff_getElem?.1 hR
  have h3 := (rowsOk_at h1 hi).1
  have h4 := rowsOk_end h1 hi
  have h5 := tagsOk_len h3.tags
  have h6 := h3.fin
  have h7 : R.pos ≤ rowEnd R := Nat.le_max_left _ _
  have h8 : R.fields = [] := orows_fields _ _ _ (by simp) R hR
  rw [h8]
  simp
  omega
theorem HasRows.next {w w' : World} {A : Option Addr} {n : Nat} {rows : List MRow} (h : HasRows w w.heap.size A n rows) (k : Below w.heap.size w w') : HasRows w' w'.heap.size A n rows := (h.below k).more k.size
set_option maxRecDepth 100000 in
set_option maxHeartbeats 3200000 in
theorem tells17_any (s v : ByteArray) (m : Int) (w : World) (hm : MxAt w m) (hs : s.size ≤ 9223372036854775807) (hv : v.size ≤ 9223372036854775807) :
    Calls Tryd.prog 3 #[.string s, .string v] w fun e w' => e = .returned (.bool true) ∧ Below w.heap.size w w' := by
  by_cases hbig : 1500 < s.size ∨ 300 < v.size
  · by_cases h1500 : 1500 < s.size
    · have hd1 : decide ((1500 : Int) < s.size) = true := decide_eq_true (by omega)
      go_enter Tryd.func3, Tryd.ntmps3
      go_wp2_with (go_at_call 8; refine (known17_any m _ hm).mono ?_; rintro e w1 ⟨rfl, hb1⟩)
      go_ret
      exact ⟨rfl, hb1⟩
    · have hd1 : decide ((1500 : Int) < s.size) = false := decide_eq_false (by omega)
      have hd2 : decide ((300 : Int) < v.size) = true := decide_eq_true (by omega)
      go_enter Tryd.func3, Tryd.ntmps3
      go_wp2_with (go_at_call 8; refine (known17_any m _ hm).mono ?_; rintro e w1 ⟨rfl, hb1⟩)
      go_ret
      exact ⟨rfl, hb1⟩
  have hd1 : decide ((1500 : Int) < s.size) = false := decide_eq_false (by omega)
  have hd2 : decide ((300 : Int) < v.size) = false := decide_eq_false (by omega)
  have h1500 : s.size ≤ 1500 := by omega
  have h300 : v.size ≤ 300 := by omega
  clear hbig
  have hL : s.data.toList.length = s.size := by simp
  have kB := fun W => bad_any' s W (by omega)
  have kR := fun W => rows_any s W (by omega)
  have kQ := fun W => rows17_any s W (by omega)
  have hsm := orows_small (l := s.data.toList)
  unfold openBad at kB
  generalize openRows s.data.toList = R at kB kR kQ hsm
  rw [hL] at hsm
  obtain ⟨R1, ra, rn⟩ := R
  simp only at hsm
  have k1 := fun W h => oquote_any v m W (by omega) h
  have k2 := fun W h => help_any v m W (by omega) h
  rw [oquoteL_eq] at k1
  rw [helpL_eq] at k2
  have q1 := fun W => quote17_any v true W (by omega)
  have q2 := fun W => quote17_any v false W (by omega)
  generalize mkS (escQ true v.data.toList) = V1 at k1 q1
  generalize mkS (escQ false v.data.toList) = V2 at k2 q2
  clear hL
  obtain ⟨rows, bad, hok, hrl, hrow2, kR2, kQ2, kB2⟩ : ∃ (rows : List MRow) (bad : Int), ((!rn) == decide (bad < 0)) = true ∧ rows.length ≤ 1501 ∧ (∀ R ∈ rows, R.tags.length ≤ 1048576 ∧ R.fields.length ≤ 1048576) ∧
      (∀ W, Calls Tryd.prog 9 #[.string s] W fun e w' => (∃ A n c, e = .returned (.tuple #[.slice A n c, .bool (!rn)]) ∧ HasRows w' w'.heap.size A n rows) ∧ Below W.heap.size W w') ∧
      (∀ W, Calls Tryd.prog 10 #[.string s] W fun e w' => (∃ A n c, e = .returned (.tuple #[.slice A n c, .int .i64 bad]) ∧ HasRows w' w'.heap.size A n rows) ∧ Below W.heap.size W w') ∧
      (∀ W, Calls Tryd.prog 11 #[.string s] W fun e w' => e = .returned (.int .i64 bad) ∧ Below W.heap.size W w') := by
    refine ⟨_, _, ?_, ?_, ?_, kR, kQ, kB⟩
    · cases rn
      · simp
      · simp
    · cases rn
      · have := (hsm rfl).1; simp; omega
      · simp
    · intro R hR
      cases rn
      · have := (hsm rfl).2 R (by simpa using hR)
        omega
      · simp at hR
  clear kR kQ kB hsm
  have HRW := Lib.hid hrow2
  have HN : ∀ {w A n}, HasRows w w.heap.size A n rows → n ≤ 1048576 := fun h => by have := h.len; omega
  clear hrow2 hrl
  obtain ⟨ok, hok1⟩ : ∃ ok, (!rn) = ok := ⟨_, rfl⟩
  obtain ⟨neg, hneg⟩ : ∃ neg, decide (bad < 0) = neg := ⟨_, rfl⟩
  rw [hok1] at kR2 hok
  rw [hneg] at hok
  obtain rfl : ok = neg := by simpa using hok
  clear hok hok1
  go_enter Tryd.func3, Tryd.ntmps3
  go_wp2_with (first
    | (go_at_call 8; refine (known17_any m _ hm).mono ?_; rintro e w1 ⟨rfl, hb1⟩)
    | (go_at_call 9; (with_reducible refine (kR2 _).mono ?_); rintro e w2 ⟨⟨A, n, c, rfl, hr⟩, hb2⟩)
    | (go_at_call 10; (with_reducible refine (kQ2 _).mono ?_); rintro e w3 ⟨⟨A2, n2, c2, rfl, hr2⟩, hb3⟩; have hr3 := hr.next hb3)
    | (go_at_call 11; (with_reducible refine (kB2 _).mono ?_); rintro e w4 ⟨rfl, hb4⟩; have hr4 := hr3.next hb4; have hr5 := hr2.next hb4; have B4 := bl_any (bl_any (bl_any hb1 hb2) hb3) hb4)
    | (go_at_call 12; refine (sameRows_any _ _ _ _ _ _ rows _ hr4 hr5 (HN hr4) HRW.out).mono ?_; rintro e w5 ⟨rfl, hb5⟩; have B5 := bl_any B4 hb5)
    | (go_at_call 13; (with_reducible refine (k1 _ (hm.below B5)).mono ?_); rintro e w6 ⟨rfl, hb6⟩; have B6 := bl_any B5 hb6)
    | (go_at_call 14; (with_reducible refine (q1 _).mono ?_); rintro e w9 ⟨rfl, hw9⟩; rw [hw9]; clear hw9 w9)
    | (go_at_call 15; (with_reducible refine (k2 _ (hm.below B6)).mono ?_); rintro e w7 ⟨rfl, hb7⟩; have B7 := bl_any B6 hb7)
    | (go_at_call 14; (with_reducible refine (q2 _).mono ?_); rintro e w9 ⟨rfl, hw9⟩; rw [hw9]; clear hw9 w9))
  go_ret
  exact ⟨rfl, B7⟩
end Go.Proofs.YtdngieihlcknmaaDoor
