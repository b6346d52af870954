/- The line format: what a field is is told by how its value ends (no program in sight). -/
import Derived.Test.YtdngieihlcknmaaLineQ2
namespace Go.Proofs.Ytdngieihlcknmaa
set_option linter.unusedVariables false
set_option linter.unusedSimpArgs false
open Go.RowKit
set_option maxRecDepth 4000
def valT (k : Nat) (d : List UInt8) : List UInt8 := match k with
  | 0 => d | 1 => d ++ [46, 53] | 2 => d ++ [105] | 3 => d ++ [117] | 4 => 45 :: (d ++ [105]) | 5 => 45 :: d | 6 => wTrue | 7 => wFalse | _ => 34 :: (d ++ [34])
def valK (k : Nat) : Nat := match k with
  | 0 => 0 | 1 => 0 | 2 => 1 | 3 => 2 | 4 => 1 | 5 => 0 | 6 => 3 | 7 => 3 | _ => 4
def valW (k : Nat) (d : List UInt8) : List UInt8 := match k with
  | 0 => d | 1 => d ++ [46, 53] | 2 => d | 3 => d | 4 => 45 :: d | 5 => 45 :: d | 6 => wTrue | 7 => wFalse | _ => d
def valS (k : Nat) : Nat := match k with
  | 0 => 0 | 1 => 0 | 2 => 0 | 3 => 0 | 4 => 0 | 5 => 0 | 6 => 0 | 7 => 0 | _ => 1
/-- Digits, one at least. -/
def Digs (d : List UInt8) : Prop := d ≠ [] ∧ ∀ c ∈ d, 48 ≤ c.toNat ∧ c.toNat ≤ 57
section
variable {l : List UInt8}
theorem digs_head {d r : List UInt8} (h : Digs d) : ∃ c t, d ++ r = c :: t ∧ 48 ≤ c.toNat ∧ c.toNat ≤ 57 := by
  cases d with
  | nil => exact absurd rfl h.1
  | cons c d => exact ⟨c, d ++ r, rfl, h.2 c List.mem_cons_self⟩
theorem some_dig2 {p : Nat} {d r : List UInt8} {y : UInt8} (hd : Digs d) (hy : ¬ (48 ≤ y.toNat ∧ y.toNat ≤ 57)) (h : l.drop p = d ++ y :: r) : someS l digB p false = (p + d.length, false) := by
  have hw : whA l digB p = p + d.length := by
    unfold whA
    rw [h, List.takeWhile_append_of_pos (fun c hc => by rw [digB_iff]; have := hd.2 c hc; omega), List.takeWhile_cons]
    have : digB ((y.toNat : Nat) : Int) = false := by
      cases hq : digB ((y.toNat : Nat) : Int)
      · rfl
      · rw [digB_iff] at hq; omega
    rw [this]; simp
  have hne : d.length ≠ 0 := fun e => hd.1 (List.length_eq_zero_iff.1 e)
  unfold someS
  rw [hw]
  have : (p + d.length == p) = false := by rw [beq_eq_false_iff_ne]; omega
  simp [this]
theorem num_dig2 {p : Nat} {d r : List UInt8} {y : UInt8} (hd : Digs d) (hy : ¬ (48 ≤ y.toNat ∧ y.toNat ≤ 57)) (h : l.drop p = d ++ y :: r) : numS l p false = (p + d.length, false) := by
  obtain ⟨c, t, h1, h2, h3⟩ := digs_head (r := y :: r) hd
  unfold numS takeA
  have h' := h
  rw [h1] at h'
  rw [isB_no2 h' (by omega)]
  simp only [Bool.false_eq_true, if_false]
  exact some_dig2 hd hy h
theorem num_neg2 {p : Nat} {d r : List UInt8} {y : UInt8} (hd : Digs d) (hy : ¬ (48 ≤ y.toNat ∧ y.toNat ≤ 57)) (h : l.drop p = 45 :: (d ++ y :: r)) : numS l p false = (p + 1 + d.length, false) := by
  unfold numS takeA
  rw [isB_yes2 h (by decide)]
  simp only [Bool.false_eq_true, if_false, if_true]
  exact some_dig2 hd hy (drop_one h)
/-- What may follow a value. -/
def After1 (y : UInt8) : Prop := ¬ (48 ≤ y.toNat ∧ y.toNat ≤ 57) ∧ y.toNat ≠ 105 ∧ y.toNat ≠ 117 ∧ y.toNat ≠ 46
theorem told_num {p : Nat} {c : UInt8} {t : List UInt8} (h : l.drop p = c :: t) (hc : c.toNat ≠ 116 ∧ c.toNat ≠ 102 ∧ c.toNat ≠ 34) : toldS l p false = numberS l p false := by
  unfold toldS
  rw [isB_no2 h (by omega), isB_no2 h (by omega), isB_no2 h (by omega)]
  simp
theorem word_drop : ∀ (w : List UInt8) {p : Nat} {r : List UInt8}, l.drop p = w ++ r → p ≤ l.length → wordS l w p false = (p + w.length, false)
  | [], p, r, h, _ => rfl
  | c :: w, p, r, h, _ => by
    have h' : l.drop p = c :: (w ++ r) := h
    have hlt := (drop_bt h').1
    rw [word_head (isB_yes2 h' rfl), word_drop w (drop_one h') hlt]
    simp; omega
theorem told_val {k p : Nat} {d r : List UInt8} {y : UInt8} (hd : Digs d) (hy : After1 y) (h : l.drop p = valT k d ++ y :: r) (hp : p ≤ l.length) : toldS l p false = ((valK k, valW k d, p + valS k), p + (valT k d).length, false) := by
  obtain ⟨y1, y2, y3, y4⟩ := hy
  match k with
  | 0 =>
    have h : l.drop p = d ++ y :: r := h
    obtain ⟨c, t, h1, h2, h3⟩ := digs_head (r := y :: r) hd
    have h' := h; rw [h1] at h'
    have hm := num_dig2 hd y1 h
    have g := drop_app h
    rw [told_num h' (by omega)]
    unfold numberS
    simp only [hm, isB_no2 g (show (y.toNat : Int) ≠ 105 by omega), isB_no2 g (show (y.toNat : Int) ≠ 117 by omega), isB_no2 g (show (y.toNat : Int) ≠ 46 by omega), Bool.and_false, Bool.false_eq_true, if_false, drop_cut h]
    rfl
  | 1 =>
    have h : l.drop p = d ++ 46 :: 53 :: y :: r := by rw [h]; simp [valT]
    obtain ⟨c, t, h1, h2, h3⟩ := digs_head (r := 46 :: 53 :: y :: r) hd
    have h' := h; rw [h1] at h'
    have hm := num_dig2 hd (by decide) h
    have g := drop_app h
    have g2 : l.drop (p + d.length + 1) = [53] ++ y :: r := drop_one g
    have hs := some_dig2 (d := [53]) ⟨by simp, by decide⟩ y1 g2
    rw [told_num h' (by omega)]
    unfold numberS
    simp only [hm, isB_no2 g (show (((46 : UInt8).toNat : Nat) : Int) ≠ 105 by decide), isB_no2 g (show (((46 : UInt8).toNat : Nat) : Int) ≠ 117 by decide), isB_yes2 g (show (((46 : UInt8).toNat : Nat) : Int) = 46 by decide), Bool.and_false, Bool.false_eq_true, if_false, if_true, drop_cut h, hs, drop_cut g2]
    simp [valK, valW, valS, valT]; omega
  | 2 =>
    have h : l.drop p = d ++ 105 :: y :: r := by rw [h]; simp [valT]
    obtain ⟨c, t, h1, h2, h3⟩ := digs_head (r := 105 :: y :: r) hd
    have h' := h; rw [h1] at h'
    have hm := num_dig2 hd (by decide) h
    have g := drop_app h
    rw [told_num h' (by omega)]
    unfold numberS
    simp only [hm, isB_yes2 g (show (((105 : UInt8).toNat : Nat) : Int) = 105 by decide), if_true, drop_cut h]
    simp [valK, valW, valS, valT]; omega
  | 3 =>
    have h : l.drop p = d ++ 117 :: y :: r := by rw [h]; simp [valT]
    obtain ⟨c, t, h1, h2, h3⟩ := digs_head (r := 117 :: y :: r) hd
    have h' := h; rw [h1] at h'
    have hm := num_dig2 hd (by decide) h
    have g := drop_app h
    rw [told_num h' (by omega)]
    unfold numberS
    simp only [hm, isB_no2 h' (show (c.toNat : Int) ≠ 45 by omega), isB_no2 g (show (((117 : UInt8).toNat : Nat) : Int) ≠ 105 by decide), isB_yes2 g (show (((117 : UInt8).toNat : Nat) : Int) = 117 by decide), Bool.not_false, Bool.and_self, Bool.false_eq_true, if_false, if_true, drop_cut h]
    simp [valK, valW, valS, valT]; omega
  | 4 =>
    have h : l.drop p = 45 :: (d ++ 105 :: y :: r) := by rw [h]; simp [valT]
    have hm := num_neg2 hd (by decide) h
    have g := drop_app (drop_one h)
    have hcut : cutL l p (p + 1 + d.length) = 45 :: d := by
      have := drop_cut (l := l) (p := p) (x := 45 :: d) (r := 105 :: y :: r) h
      rw [show p + (45 :: d).length = p + 1 + d.length by simp; omega] at this
      exact this
    rw [told_num h (by decide)]
    unfold numberS
    simp only [hm, isB_yes2 g (show (((105 : UInt8).toNat : Nat) : Int) = 105 by decide), if_true, hcut]
    simp [valK, valW, valS, valT]; omega
  | 5 =>
    have h : l.drop p = 45 :: (d ++ y :: r) := by rw [h]; simp [valT]
    have hm := num_neg2 hd y1 h
    have g := drop_app (drop_one h)
    have hcut : cutL l p (p + 1 + d.length) = 45 :: d := by
      have := drop_cut (l := l) (p := p) (x := 45 :: d) (r := y :: r) h
      rw [show p + (45 :: d).length = p + 1 + d.length by simp; omega] at this
      exact this
    rw [told_num h (by decide)]
    unfold numberS
    simp only [hm, isB_no2 g (show (y.toNat : Int) ≠ 105 by omega), isB_no2 g (show (y.toNat : Int) ≠ 117 by omega), isB_no2 g (show (y.toNat : Int) ≠ 46 by omega), Bool.and_false, Bool.false_eq_true, if_false, hcut]
    simp [valK, valW, valS, valT]; omega
  | 6 =>
    have hw := word_drop wTrue h hp
    have h' : l.drop p = 116 :: (114 :: 117 :: 101 :: y :: r) := h
    unfold toldS
    rw [isB_yes2 h' (by decide), if_pos rfl, hw]
    rfl
  | 7 =>
    have hw := word_drop wFalse h hp
    have h' : l.drop p = 102 :: (97 :: 108 :: 115 :: 101 :: y :: r) := h
    unfold toldS
    rw [isB_no2 h' (by decide), if_neg (by simp), isB_yes2 h' (by decide), if_pos rfl, hw]
    rfl
  | k + 8 =>
    have h : l.drop p = 34 :: (d ++ 34 :: y :: r) := by rw [h]; simp [valT]
    have hq : markL inT d = d := by
      have : ∀ v : List UInt8, (∀ c ∈ v, 48 ≤ c.toNat ∧ c.toNat ≤ 57) → markL inT v = v := by
        intro v
        induction v with
        | nil => intro _; rfl
        | cons c v ih =>
          intro hv
          rw [show c :: v = [c] ++ v from rfl, markL_app, ih (fun x hx => hv x (List.mem_cons_of_mem _ hx)), markL_one]
          have h1 := hv c List.mem_cons_self
          have : isMk inT c = false := by
            unfold isMk
            rw [List.any_eq_false]
            intro x hx e
            simp [inT] at hx
            rcases hx with rfl | rfl <;> simp at e <;> omega
          rw [this]; rfl
      exact this d hd.2
    have g := drop_one h
    have hbad : badU d = -1 := by
      have : ∀ f a, badGo d f a = -1 := by
        intro f
        induction f with
        | zero => intro a; rfl
        | succ f ih =>
          intro a
          unfold badGo
          by_cases hlt : a < d.length
          · rw [if_pos hlt]
            have hb : bt d a = (d[a]).toNat := bt_get hlt
            have h1 := hd.2 _ (List.getElem_mem hlt)
            have hu : uSize (bt d a) = 1 := by unfold uSize; rw [if_pos (by omega)]
            have hf : frontU d a = (1, true) := by
              unfold frontU
              rw [hu, if_neg (by omega)]
              rfl
            rw [hf, if_pos rfl]; exact ih _
          · rw [if_neg hlt]
      exact this _ _
    have hk := ink_text (l := l) (v := d) (r := y :: r) (p := p + 1) hbad (fun h10 => by have := hd.2 10 h10; simp at this) (by rw [hq]; exact g)
    rw [hq] at hk
    have g2 := drop_app g
    have hw := word_one g2
    unfold toldS
    rw [isB_no2 h (by decide), isB_no2 h (by decide), isB_yes2 h (by decide)]
    simp only [Bool.false_eq_true, if_false, if_true, hk, hw]
    unfold inkV
    rw [hk]
    simp [valK, valW, valS, valT]; omega
/-- Fields k.=1, one behind the other. -/
def aheadL (cs : List UInt8) : List UInt8 := cs.flatMap fun c => [107, c, 61, 49, 44]
def Low (cs : List UInt8) : Prop := ∀ c ∈ cs, 97 ≤ c.toNat ∧ c.toNat ≤ 122
theorem field_val {p k : Nat} {nm d r : List UInt8} {y : UInt8} (hn : NameB nm) (hn0 : nm ≠ []) (hm : markL inK nm = nm) (hd : Digs d) (hy : After1 y) (h : l.drop p = nm ++ 61 :: (valT k d ++ y :: r)) :
    fieldS l p false = (⟨mkS nm, mkS (valW k d), p, p + nm.length + 1 + valS k, valK k⟩, p + nm.length + 1 + (valT k d).length, false) := by
  have h1 := sgn_name (l := l) (m := inK) (by decide) (by decide) (y := 61) (r := valT k d ++ y :: r) (by decide) (by decide) (by decide) hn hn0 (p := p) (by rw [hm]; exact h)
  rw [hm] at h1
  have g := drop_app h
  have w := word_one g
  have g2 := drop_one g
  have ht := told_val hd hy g2 (by have := (drop_bt g).1; omega)
  unfold fieldS
  simp only [h1, w, ht]
theorem name_k {c : UInt8} (h1 : 97 ≤ c.toNat) (h2 : c.toNat ≤ 122) : NameB [107, c] ∧ markL inK [107, c] = [107, c] := by
  refine ⟨fun x hx => ?_, ?_⟩
  · simp at hx
    rcases hx with rfl | rfl
    · decide
    · omega
  · rw [show ([107, c] : List UInt8) = [107] ++ [c] from rfl, markL_app, markL_one, markL_one]
    have : isMk inK c = false := by
      unfold isMk
      rw [List.any_eq_false]
      intro x hx e
      simp [inK] at hx
      rcases hx with rfl | rfl | rfl <;> simp at e <;> omega
    rw [this]; rfl
theorem fields_ahead {k : Nat} {d r : List UInt8} {y : UInt8} (hd : Digs d) (hy : After1 y) (hy2 : y.toNat ≠ 44) : ∀ (cs : List UInt8) (f p : Nat) (acc : List MField), Low cs → l.drop p = aheadL cs ++ (120 :: 61 :: (valT k d ++ y :: r)) → cs.length < f →
    ∃ fs, fs.length = cs.length ∧ fieldsS l f p false acc = (acc ++ fs ++ [⟨mkS [120], mkS (valW k d), p + (aheadL cs).length, p + (aheadL cs).length + 2 + valS k, valK k⟩], p + (aheadL cs).length + 2 + (valT k d).length, false)
  | [], f, p, acc, _, h, hf => by
    obtain ⟨f, rfl⟩ : ∃ f', f = f' + 1 := ⟨f - 1, by simp at hf; omega⟩
    have h : l.drop p = [120] ++ 61 :: (valT k d ++ y :: r) := h
    have hF := field_val (nm := [120]) (by intro x hx; simp at hx; subst hx; decide) (by simp) (by decide) hd hy h
    have g := drop_app (drop_one (drop_app h))
    refine ⟨[], rfl, ?_⟩
    unfold fieldsS
    rw [hF]
    simp only [List.length_cons, List.length_nil, Nat.zero_add] at g ⊢
    rw [isB_no2 g (show (y.toNat : Int) ≠ 44 by omega)]
    simp [aheadL]
  | c :: cs, f, p, acc, hl, h, hf => by
    obtain ⟨f, rfl⟩ : ∃ f', f = f' + 1 := ⟨f - 1, by simp at hf; omega⟩
    have hc := hl c List.mem_cons_self
    have h : l.drop p = [107, c] ++ 61 :: (valT 0 [49] ++ 44 :: (aheadL cs ++ (120 :: 61 :: (valT k d ++ y :: r)))) := by rw [h]; simp [aheadL, valT]
    obtain ⟨n1, n2⟩ := name_k hc.1 hc.2
    have hF := field_val (k := 0) n1 (by simp) n2 (d := [49]) ⟨by simp, by decide⟩ (y := 44) ⟨by decide, by decide, by decide, by decide⟩ h
    have g := drop_app (drop_one (drop_app h))
    have g2 := drop_one g
    simp only [List.length_cons, List.length_nil, Nat.zero_add, valT, valW, valS, valK, Nat.add_zero] at hF g g2
    obtain ⟨fs, h1, h2⟩ := fields_ahead hd hy hy2 cs f (p + (1 + 1) + 1 + 1 + 1) (acc ++ [⟨mkS [107, c], mkS [49], p, p + (1 + 1) + 1, 0⟩]) (fun x hx => hl x (List.mem_cons_of_mem _ hx)) g2 (by simp at hf; omega)
    refine ⟨⟨mkS [107, c], mkS [49], p, p + (1 + 1) + 1, 0⟩ :: fs, by simp [h1], ?_⟩
    rw [fieldsS]
    rw [hF]
    rw [isB_yes2 g (by decide)]
    simp only [if_true]
    rw [h2]
    have e : (aheadL (c :: cs)).length = 5 + (aheadL cs).length := by simp [aheadL]; omega
    rw [e]
    simp only [List.append_assoc, List.cons_append, List.nil_append]
    congr 4
    all_goals first | omega | (congr 2 <;> omega) | skip
end
end Go.Proofs.Ytdngieihlcknmaa
