/- The open format: what is quoted is read as it was (no program in sight). -/
import Derived.Test.YtdngieihlcknmaaDoorDropQ
import Derived.Test.YtdngieihlcknmaaDoorOpenH
namespace Go.Proofs.YtdngieihlcknmaaDoor
set_option linter.unusedVariables false
set_option linter.unusedSimpArgs false
open Go.RowKit
set_option maxRecDepth 4000
/-- A byte as it is written, with quotes or without. -/
def e17 (q : Bool) (c : UInt8) : List UInt8 := if c = 92 then [92, 92] else if c = 10 then [92, 110] else if q = true ∧ c = 34 then [92, 34] else [c]
def escQ (q : Bool) (v : List UInt8) : List UInt8 := v.flatMap (e17 q)
theorem helpL_eq (v : List UInt8) : helpL v = escQ false v := by
  unfold helpL escL escQ
  rw [List.flatMap_assoc]
  congr 1
  funext c
  unfold e17
  by_cases h1 : c = 92
  · subst h1; rfl
  · by_cases h2 : c = 10
    · subst h2; rfl
    · simp [h1, h2]
theorem oquoteL_eq (v : List UInt8) : oquoteL v = escQ true v := by
  unfold oquoteL
  rw [helpL_eq]
  unfold escL escQ
  rw [List.flatMap_assoc]
  congr 1
  funext c
  unfold e17
  by_cases h1 : c = 92
  · subst h1; rfl
  · by_cases h2 : c = 10
    · subst h2; rfl
    · by_cases h3 : c = 34
      · subst h3; rfl
      · simp [h1, h2, h3]
theorem escQ_app (q : Bool) (a b : List UInt8) : escQ q (a ++ b) = escQ q a ++ escQ q b := by unfold escQ; rw [List.flatMap_append]
theorem escQ_one (q : Bool) (c : UInt8) : escQ q [c] = e17 q c := by simp [escQ]
theorem escQ_far {q : Bool} {x : List UInt8} (hx : ∀ k, k < x.length → 128 ≤ bt x k) : escQ q x = x := by
  have : ∀ y : List UInt8, (∀ c ∈ y, 128 ≤ c.toNat) → y.flatMap (e17 q) = y := by
    intro y
    induction y with
    | nil => intro _; rfl
    | cons c y ih =>
      intro h
      rw [List.flatMap_cons, ih (fun d hd => h d (List.mem_cons_of_mem _ hd))]
      have hc := h c List.mem_cons_self
      have e : ∀ d : UInt8, d.toNat < 128 → c ≠ d := fun d hd he => by rw [he] at hc; omega
      unfold e17
      rw [if_neg (e 92 (by decide)), if_neg (e 10 (by decide)), if_neg (fun h => e 34 (by decide) h.2)]
      rfl
  apply this
  intro c hc
  obtain ⟨k, hk, rfl⟩ := List.getElem_of_mem hc
  have := hx k hk
  rw [bt_get hk] at this
  omega
section
variable {l : List UInt8}
/-- The two readers of scalars: a label's value, a help. -/
def InkK (q : Bool) (y : UInt8) (m : List UInt8) : Prop := (q = true ∧ y = 34 ∧ m = inV) ∨ (q = false ∧ y = 10 ∧ m = inH)
theorem inkS_esc {q : Bool} {y : UInt8} {m r' : List UInt8} (hy : InkK q y m) :
    ∀ (xs : List (List UInt8)) (f p : Nat) (acc : List UInt8), (∀ x ∈ xs, Scal x) → l.drop p = escQ q xs.flatten ++ y :: r' → l.length < f + p → inkS l y.toNat m 110 f p acc = (acc ++ xs.flatten, p + (escQ q xs.flatten).length, false)
  | [], f, p, acc, _, h, hf => by
    have h : l.drop p = y :: r' := h
    obtain ⟨h1, h2, h3⟩ := drop_bt h
    obtain ⟨f, rfl⟩ : ∃ f', f = f' + 1 := ⟨f - 1, by omega⟩
    unfold inkS
    rw [if_neg (by omega), h2, if_pos rfl]
    simp [escQ]
  | x :: xs, f, p, acc, hall, h, hf => by
    rw [List.flatten_cons, escQ_app, List.append_assoc] at h
    have hrest := fun z hz => hall z (List.mem_cons_of_mem _ hz)
    have hlp : p < l.length := by
      rcases Nat.lt_or_ge p l.length with h' | h'
      · exact h'
      · rw [List.drop_of_length_le h'] at h; simp at h
    obtain ⟨f, rfl⟩ : ∃ f', f = f' + 1 := ⟨f - 1, by omega⟩
    have hlen : (escQ q (x :: xs).flatten).length = (escQ q x).length + (escQ q xs.flatten).length := by rw [List.flatten_cons, escQ_app, List.length_append]
    rw [hlen]
    have hy1 : y = 34 ∨ y = 10 := by rcases hy with ⟨_, h, _⟩ | ⟨_, h, _⟩ <;> simp [h]
    have hy2 : (92 : Int) ≠ y.toNat := by rcases hy1 with rfl | rfl <;> decide
    have hyl : (y.toNat : Int) < 128 := by rcases hy1 with rfl | rfl <;> decide
    have hx := hall x List.mem_cons_self
    by_cases hx2 : 2 ≤ x.length
    · have htl := scal_tail hx hx2
      rw [escQ_far htl] at h ⊢
      have hfr := front_drop hx h
      have hb := bt_drop p 0 h (by omega)
      have h128 := htl 0 (by omega)
      rw [Nat.add_zero] at hb
      unfold inkS
      rw [if_neg (by omega), hb, if_neg (by omega), if_neg (by omega), if_neg (by omega), hfr, if_pos rfl, drop_cut h]
      rw [inkS_esc hy xs f (p + x.length) (acc ++ x) hrest (drop_app h) (by omega)]
      simp; omega
    · obtain ⟨c, rfl⟩ : ∃ c, x = [c] := by
        have : x.length ≠ 0 := fun e => hx.1 (List.length_eq_zero_iff.1 e)
        exact List.length_eq_one_iff.1 (by omega)
      rw [escQ_one] at h ⊢
      -- a byte behind a backslash
      have two : ∀ d : UInt8, e17 q c = [92, d] → escB l m p = ((m.any fun k => (d.toNat : Int) == k.toNat)) ∧ bt l p = 92 ∧ bt l (p + 1) = d.toNat ∧ l.getD (p + 1) 0 = d ∧ l.drop (p + 2) = escQ q xs.flatten ++ y :: r' := fun d hd => by
        rw [hd] at h
        obtain ⟨h1, h2, h3⟩ := drop_bt (l := l) (p := p) (c := 92) (r := d :: (escQ q xs.flatten ++ y :: r')) h
        obtain ⟨g1, g2, g3⟩ := drop_bt (drop_one (l := l) (p := p) (c := 92) (r := d :: (escQ q xs.flatten ++ y :: r')) h)
        refine ⟨?_, h2, g2, g3, drop_app (x := [92, d]) h⟩
        unfold escB
        rw [g2]; simp [g1]
      by_cases h92 : c = 92
      · subst h92
        have e : e17 q 92 = [92, 92] := rfl
        obtain ⟨t1, t2, t3, t4, t5⟩ := two 92 e
        rw [e]
        have t6 : escB l m p = true := by rw [t1]; rcases hy with ⟨_, _, rfl⟩ | ⟨_, _, rfl⟩ <;> decide
        unfold inkS
        rw [if_neg (by omega), t2, if_neg hy2, if_neg (by decide), if_pos rfl, if_pos t6, t3, if_neg (by decide), t4]
        rw [inkS_esc hy xs f (p + 2) (acc ++ [92]) hrest t5 (by omega)]
        simp; omega
      by_cases h10 : c = 10
      · subst h10
        have e : e17 q 10 = [92, 110] := rfl
        obtain ⟨t1, t2, t3, t4, t5⟩ := two 110 e
        rw [e]
        have t6 : escB l m p = true := by rw [t1]; rcases hy with ⟨_, _, rfl⟩ | ⟨_, _, rfl⟩ <;> decide
        unfold inkS
        rw [if_neg (by omega), t2, if_neg hy2, if_neg (by decide), if_pos rfl, if_pos t6, t3, if_pos (by decide)]
        rw [inkS_esc hy xs f (p + 2) (acc ++ [10]) hrest t5 (by omega)]
        simp; omega
      by_cases h34 : q = true ∧ c = 34
      · obtain ⟨rfl, rfl⟩ := h34
        have e : e17 true 34 = [92, 34] := rfl
        obtain ⟨t1, t2, t3, t4, t5⟩ := two 34 e
        rw [e]
        have t6 : escB l m p = true := by rw [t1]; rcases hy with ⟨_, _, rfl⟩ | ⟨h, _, _⟩; · decide
                                          · cases h
        unfold inkS
        rw [if_neg (by omega), t2, if_neg hy2, if_neg (by decide), if_pos rfl, if_pos t6, t3, if_neg (by decide), t4]
        rw [inkS_esc hy xs f (p + 2) (acc ++ [34]) hrest t5 (by omega)]
        simp; omega
      have e : e17 q c = [c] := by unfold e17; rw [if_neg h92, if_neg h10, if_neg h34]
      rw [e] at h ⊢
      obtain ⟨h1, h2, h3⟩ := drop_bt (l := l) (p := p) (c := c) (r := escQ q xs.flatten ++ y :: r') h
      have nn : ∀ d : UInt8, c ≠ d → (c.toNat : Int) ≠ d.toNat := fun d hd he => hd (UInt8.toNat_inj.1 (by omega))
      have hcy : (c.toNat : Int) ≠ y.toNat := by
        rcases hy with ⟨hq, rfl, _⟩ | ⟨_, rfl, _⟩
        · exact nn 34 (fun e => h34 ⟨hq, e⟩)
        · exact nn 10 h10
      have hfr := front_drop hx h
      unfold inkS
      rw [if_neg (by omega), h2, if_neg hcy, if_neg (show (c.toNat : Int) ≠ 10 from nn 10 h10), if_neg (show (c.toNat : Int) ≠ 92 from nn 92 h92), hfr, if_pos rfl, drop_cut h]
      show inkS l y.toNat m 110 f (p + 1) (acc ++ [c]) = _
      rw [inkS_esc hy xs f (p + 1) (acc ++ [c]) hrest (drop_app (x := [c]) h) (by omega)]
      simp; omega
theorem ink_esc {q : Bool} {y : UInt8} {m r' v : List UInt8} (hy : InkK q y m) (hv : badU v = -1) {p : Nat} (h : l.drop p = escQ q v ++ y :: r') : ink l y.toNat m 110 p false = (v, p + (escQ q v).length, false) := by
  obtain ⟨xs, rfl, hall⟩ := badU_scal hv
  have hp : p < l.length := by
    rcases Nat.lt_or_ge p l.length with h' | h'
    · exact h'
    · rw [List.drop_of_length_le h'] at h; simp at h
  unfold ink
  rw [if_neg (by simp), inkS_esc hy xs (l.length + 1) p [] hall h (by omega)]
  rfl
theorem nm_one {P : Int → Bool} {p : Nat} {c d : UInt8} {r : List UInt8} (h : l.drop p = c :: d :: r) (h1 : P c.toNat = true) (h2 : digB c.toNat = false) (h3 : P d.toNat = false) : nmS l P p false = (p + 1, false) := by
  obtain ⟨a1, a2, _⟩ := drop_bt h
  obtain ⟨b1, b2, _⟩ := drop_bt (drop_one h)
  unfold nmS someS
  rw [a2, h2, Bool.and_false, Bool.or_false, if_neg (by simp)]
  rw [whA_yes a1 (by rw [a2]; exact h1), whA_no b1 (by rw [b2]; exact h3)]
  simp
theorem dec_one {p : Nat} {c d : UInt8} {r : List UInt8} (h : l.drop p = c :: d :: r) (h0 : (c.toNat : Int) ≠ 45) (h1 : digB c.toNat = true) (h2 : digB d.toNat = false) (h3 : (d.toNat : Int) ≠ 46) : decS l p false = (p + 1, false) := by
  obtain ⟨a1, a2, _⟩ := drop_bt h
  obtain ⟨b1, b2, _⟩ := drop_bt (drop_one h)
  have hn : numS l p false = (p + 1, false) := by
    unfold numS takeA someS
    rw [if_neg (by simp), isB_no2 h h0, if_neg (by simp), if_neg (by simp)]
    rw [whA_yes a1 (by rw [a2]; exact h1), whA_no b1 (by rw [b2]; exact h2)]
    simp
  unfold decS
  rw [hn, if_neg (by simp), isB_no2 (drop_one h) h3, if_neg (by simp)]
end
/-- The text that is written. -/
def quoteText (v : List UInt8) : List UInt8 :=
  [35, 32, 72, 69, 76, 80, 32, 97, 32] ++ (escQ false v ++ 10 :: 97 :: 123 :: 98 :: 61 :: 34 :: (escQ true v ++ 34 :: 44 :: 99 :: 61 :: 34 :: 34 :: 125 :: 32 :: 49 :: 10 :: 35 :: 32 :: 69 :: 79 :: 70 :: [10]))
def QuotedRows (v : List UInt8) (R1 R2 : MRow) : Prop :=
  R1.kind = 3 ∧ R1.text = mkS v ∧ ∃ t u, R2.tags = [t, u] ∧ t.value = mkS v ∧ u.value = mkS []
theorem open_quotes {v : List UInt8} (hv : badU v = -1) : ∃ R1 R2, openRows (quoteText v) = ([R1, R2], (quoteText v).length, false) ∧ QuotedRows v R1 R2 := by
  obtain ⟨l, hl⟩ : ∃ l, quoteText v = l := ⟨_, rfl⟩
  rw [hl]
  have g0 : l.drop 0 = [35, 32, 72, 69, 76, 80, 32, 97, 32] ++ (escQ false v ++ 10 :: 97 :: 123 :: 98 :: 61 :: 34 :: (escQ true v ++ 34 :: 44 :: 99 :: 61 :: 34 :: 34 :: 125 :: 32 :: 49 :: 10 :: 35 :: 32 :: 69 :: 79 :: 70 :: [10])) := by rw [List.drop_zero, ← hl]; rfl
  have i0 : isB l 0 false 35 = true := isB_yes2 (c := 35) g0 rfl
  have w0 : wordS l wHash 0 false = (2, false) := word_app wHash 0 _ g0
  have g2 := drop_app (x := [35, 32]) (p := 0) g0
  have k84 : isB l 2 false 84 = false := isB_no2 (c := 72) g2 (by decide)
  have k85 : isB l 2 false 85 = false := isB_no2 (c := 72) g2 (by decide)
  have k72 : isB l 2 false 72 = true := isB_yes2 (c := 72) g2 (by decide)
  have w2 : wordS l wHelp 2 false = (7, false) := word_app wHelp 2 _ g2
  have g7 := drop_app (x := [72, 69, 76, 80, 32]) (p := 2) g2
  have n7 : nmS l owName 7 false = (8, false) := nm_one g7 (by decide) (by decide) (by decide)
  have g8 := drop_one g7
  have w8 : wordS l [32] 8 false = (9, false) := word_app [32] 8 _ g8
  have g9 : l.drop 9 = escQ false v ++ 10 :: 97 :: 123 :: 98 :: 61 :: 34 :: (escQ true v ++ 34 :: 44 :: 99 :: 61 :: 34 :: 34 :: 125 :: 32 :: 49 :: 10 :: 35 :: 32 :: 69 :: 79 :: 70 :: [10]) := drop_one g8
  have s9 : ink l 10 inH 110 9 false = _ := ink_esc (q := false) (y := 10) (.inr ⟨rfl, rfl, rfl⟩) hv g9
  have g10 := drop_app g9
  generalize hp1 : 9 + (escQ false v).length = p1 at s9 g10
  have w10 := word_one g10
  have g11 := drop_one g10
  have t1 : otoldS l 3 wHelp 2 false = (⟨3, mkS (cutL l 7 8), 7, [], [], mkS v, 9, false, mkS [], 0⟩, p1 + 1, false) := by
    unfold otoldS otextS
    simp only [w2, n7, w8]
    unfold inkV
    simp only [s9, w10]
    simp [w10]
  have l1 : olineS l 0 = ((some ⟨3, mkS (cutL l 7 8), 7, [], [], mkS v, 9, false, mkS [], 0⟩, false), p1 + 1, false) := by
    unfold olineS
    simp only [i0, w0, k84, k85, k72, t1, if_true, Bool.false_eq_true, if_false]
  have j11 : isB l (p1 + 1) false 35 = false := isB_no2 (c := 97) g11 (by decide)
  have n11 : nmS l owName (p1 + 1) false = (p1 + 1 + 1, false) := nm_one g11 (by decide) (by decide) (by decide)
  have g12 := drop_one g11
  have i12 : isB l (p1 + 1 + 1) false 123 = true := isB_yes2 (c := 123) g12 (by decide)
  have g13 := drop_one g12
  have i13 : isB l (p1 + 1 + 1 + 1) false 125 = false := isB_no2 (c := 98) g13 (by decide)
  have n13 : nmS l owLabel (p1 + 1 + 1 + 1) false = (p1 + 1 + 1 + 1 + 1, false) := nm_one g13 (by decide) (by decide) (by decide)
  have g14 := drop_one g13
  have w14 : wordS l wEq (p1 + 1 + 1 + 1 + 1) false = (p1 + 1 + 1 + 1 + 1 + 2, false) := word_app wEq _ _ g14
  have g15 := drop_app (x := [61, 34]) g14
  have e15 : p1 + 1 + 1 + 1 + 1 + [(61 : UInt8), 34].length = p1 + 1 + 1 + 1 + 1 + 2 := rfl
  rw [e15] at g15
  have s15 : ink l 34 inV 110 (p1 + 1 + 1 + 1 + 1 + 2) false = _ := ink_esc (q := true) (y := 34) (.inl ⟨rfl, rfl, rfl⟩) hv g15
  have g16 := drop_app g15
  generalize hp2 : p1 + 1 + 1 + 1 + 1 + 2 + (escQ true v).length = p2 at s15 g16
  have w16 := word_one g16
  have g17 := drop_one g16
  have i17 : isB l (p2 + 1) false 44 = true := isB_yes2 (c := 44) g17 (by decide)
  have g18 := drop_one g17
  have n18 : nmS l owLabel (p2 + 1 + 1) false = (p2 + 1 + 1 + 1, false) := nm_one g18 (by decide) (by decide) (by decide)
  have g19 := drop_one g18
  have w19 : wordS l wEq (p2 + 1 + 1 + 1) false = (p2 + 1 + 1 + 1 + 2, false) := word_app wEq _ _ g19
  have g20 := drop_app (x := [61, 34]) g19
  have e20 : p2 + 1 + 1 + 1 + [(61 : UInt8), 34].length = p2 + 1 + 1 + 1 + 2 := rfl
  rw [e20] at g20
  have s20 : ink l 34 inV 110 (p2 + 1 + 1 + 1 + 2) false = ([], p2 + 1 + 1 + 1 + 2, false) := ink_esc (q := true) (y := 34) (v := []) (.inl ⟨rfl, rfl, rfl⟩) rfl g20
  have w20 := word_one g20
  have g21 := drop_one g20
  have i21 : isB l (p2 + 1 + 1 + 1 + 2 + 1) false 44 = false := isB_no2 (c := 125) g21 (by decide)
  have w21 := word_one g21
  have g22 := drop_one g21
  have w22 := word_one g22
  have g23 := drop_one g22
  have d23 : decS l (p2 + 1 + 1 + 1 + 2 + 1 + 1 + 1) false = (p2 + 1 + 1 + 1 + 2 + 1 + 1 + 1 + 1, false) := dec_one g23 (by decide) (by decide) (by decide) (by decide)
  have g24 := drop_one g23
  have i24 : isB l (p2 + 1 + 1 + 1 + 2 + 1 + 1 + 1 + 1) false 32 = false := isB_no2 (c := 10) g24 (by decide)
  have w24 := word_one g24
  have g25 := drop_one g24
  have tag1 : otagS l (p1 + 1 + 1 + 1) false = (⟨mkS (cutL l (p1 + 1 + 1 + 1) (p1 + 1 + 1 + 1 + 1)), mkS v, p1 + 1 + 1 + 1, p1 + 1 + 1 + 1 + 1 + 2⟩, p2 + 1, false) := by
    unfold otagS inkV; simp only [n13, w14, s15, w16, Bool.false_eq_true, if_false]
  have tag2 : otagS l (p2 + 1 + 1) false = (⟨mkS (cutL l (p2 + 1 + 1) (p2 + 1 + 1 + 1)), mkS [], p2 + 1 + 1, p2 + 1 + 1 + 1 + 2⟩, p2 + 1 + 1 + 1 + 2 + 1, false) := by
    unfold otagS inkV; simp only [n18, w19, s20, w20, Bool.false_eq_true, if_false]
  have hlen : 2 ≤ l.length := by have := (drop_bt g8).1; omega
  have htags : otagsS l (p1 + 1 + 1) false = ([⟨mkS (cutL l (p1 + 1 + 1 + 1) (p1 + 1 + 1 + 1 + 1)), mkS v, p1 + 1 + 1 + 1, p1 + 1 + 1 + 1 + 1 + 2⟩, ⟨mkS (cutL l (p2 + 1 + 1) (p2 + 1 + 1 + 1)), mkS [], p2 + 1 + 1, p2 + 1 + 1 + 1 + 2⟩], p2 + 1 + 1 + 1 + 2 + 1 + 1, false) := by
    have hgo : otagsGo l (l.length + 1) (p1 + 1 + 1 + 1) false [] = ([⟨mkS (cutL l (p1 + 1 + 1 + 1) (p1 + 1 + 1 + 1 + 1)), mkS v, p1 + 1 + 1 + 1, p1 + 1 + 1 + 1 + 1 + 2⟩, ⟨mkS (cutL l (p2 + 1 + 1) (p2 + 1 + 1 + 1)), mkS [], p2 + 1 + 1, p2 + 1 + 1 + 1 + 2⟩], p2 + 1 + 1 + 1 + 2 + 1, false) := by
      obtain ⟨n, hn⟩ : ∃ n, l.length + 1 = n + 1 + 1 := ⟨l.length - 1, by omega⟩
      rw [hn]
      unfold otagsGo
      rw [tag1, if_neg (by simp), if_pos i17]
      unfold otagsGo
      rw [tag2, if_neg (by simp), if_neg (by rw [i21]; simp)]
      rfl
    unfold otagsS
    simp only [i12, i13, hgo, w21, if_true, Bool.false_eq_true, if_false]
  have samp : sampS l (p1 + 1) false = (⟨0, mkS (cutL l (p1 + 1) (p1 + 1 + 1)), p1 + 1, [⟨mkS (cutL l (p1 + 1 + 1 + 1) (p1 + 1 + 1 + 1 + 1)), mkS v, p1 + 1 + 1 + 1, p1 + 1 + 1 + 1 + 1 + 2⟩, ⟨mkS (cutL l (p2 + 1 + 1) (p2 + 1 + 1 + 1)), mkS [], p2 + 1 + 1, p2 + 1 + 1 + 1 + 2⟩], [], mkS (cutL l (p2 + 1 + 1 + 1 + 2 + 1 + 1 + 1) (p2 + 1 + 1 + 1 + 2 + 1 + 1 + 1 + 1)), p2 + 1 + 1 + 1 + 2 + 1 + 1 + 1, false, mkS [], 0⟩, p2 + 1 + 1 + 1 + 2 + 1 + 1 + 1 + 1 + 1, false) := by
    unfold sampS
    simp only [n11, htags, w22, d23, i24, w24, Bool.false_eq_true, if_false]
  have l2 : olineS l (p1 + 1) = ((some (sampS l (p1 + 1) false).1, false), (sampS l (p1 + 1) false).2) := by
    unfold olineS; rw [j11, if_neg (by simp)]
  rw [samp] at l2
  generalize hq : p2 + 1 + 1 + 1 + 2 + 1 + 1 + 1 + 1 + 1 = p3 at l2 g25
  have i25 : isB l p3 false 35 = true := isB_yes2 (c := 35) g25 rfl
  have w25 : wordS l wHash p3 false = (p3 + 2, false) := word_app wHash _ _ g25
  have g26 := drop_app (x := [35, 32]) g25
  have e26 : p3 + [(35 : UInt8), 32].length = p3 + 2 := rfl
  rw [e26] at g26
  have m84 : isB l (p3 + 2) false 84 = false := isB_no2 (c := 69) g26 (by decide)
  have m85 : isB l (p3 + 2) false 85 = false := isB_no2 (c := 69) g26 (by decide)
  have m72 : isB l (p3 + 2) false 72 = false := isB_no2 (c := 69) g26 (by decide)
  have w26 : wordS l wEOF (p3 + 2) false = (p3 + 2 + 3, false) := word_app wEOF _ _ g26
  have g27 := drop_app (x := [69, 79, 70]) g26
  have e27 : p3 + 2 + [(69 : UInt8), 79, 70].length = p3 + 2 + 3 := rfl
  rw [e27] at g27
  have l3 : olineS l p3 = ((none, true), p3 + 2 + 3, false) := by
    unfold olineS
    simp only [i25, w25, m84, m85, m72, w26, if_true, Bool.false_eq_true, if_false]
  have w27 := word_one g27
  have g28 := drop_one g27
  have hlt := (drop_bt g27).1
  have hend : p3 + 2 + 3 + 1 = l.length := drop_nil g28 (by omega)
  refine ⟨⟨3, mkS (cutL l 7 8), 7, [], [], mkS v, 9, false, mkS [], 0⟩, ⟨0, mkS (cutL l (p1 + 1) (p1 + 1 + 1)), p1 + 1, [⟨mkS (cutL l (p1 + 1 + 1 + 1) (p1 + 1 + 1 + 1 + 1)), mkS v, p1 + 1 + 1 + 1, p1 + 1 + 1 + 1 + 1 + 2⟩, ⟨mkS (cutL l (p2 + 1 + 1) (p2 + 1 + 1 + 1)), mkS [], p2 + 1 + 1, p2 + 1 + 1 + 1 + 2⟩], [], mkS (cutL l (p2 + 1 + 1 + 1 + 2 + 1 + 1 + 1) (p2 + 1 + 1 + 1 + 2 + 1 + 1 + 1 + 1)), p2 + 1 + 1 + 1 + 2 + 1 + 1 + 1, false, mkS [], 0⟩, ?_, rfl, rfl, _, _, rfl, rfl, rfl⟩
  · unfold openRows
    obtain ⟨n, hn⟩ : ∃ n, l.length + 2 = n + 1 + 1 + 1 := ⟨l.length - 1, by omega⟩
    rw [hn]
    have hrows : orowsGo l (n + 1 + 1 + 1) 0 [] = ([(⟨3, mkS (cutL l 7 8), 7, [], [], mkS v, 9, false, mkS [], 0⟩ : MRow), ⟨0, mkS (cutL l (p1 + 1) (p1 + 1 + 1)), p1 + 1, [⟨mkS (cutL l (p1 + 1 + 1 + 1) (p1 + 1 + 1 + 1 + 1)), mkS v, p1 + 1 + 1 + 1, p1 + 1 + 1 + 1 + 1 + 2⟩, ⟨mkS (cutL l (p2 + 1 + 1) (p2 + 1 + 1 + 1)), mkS [], p2 + 1 + 1, p2 + 1 + 1 + 1 + 2⟩], [], mkS (cutL l (p2 + 1 + 1 + 1 + 2 + 1 + 1 + 1) (p2 + 1 + 1 + 1 + 2 + 1 + 1 + 1 + 1)), p2 + 1 + 1 + 1 + 2 + 1 + 1 + 1, false, mkS [], 0⟩], p3 + 2 + 3, false) := by
      unfold orowsGo
      rw [l1, if_neg (by simp), if_neg (by simp)]
      unfold orowsGo
      rw [l2, if_neg (by simp), if_neg (by simp)]
      unfold orowsGo
      rw [l3, if_pos rfl]
      rfl
    rw [hrows]
    have hne : (p3 + 2 + 3 == l.length) = false := by rw [beq_eq_false_iff_ne]; omega
    have he2 : (l.length == l.length) = true := by simp
    unfold oendS
    simp only [hne, w27, Bool.not_false, Bool.and_self, if_true, hend, he2]
end Go.Proofs.YtdngieihlcknmaaDoor
