/- The open format: a text's rows stand where they say (no program in sight). -/
import Derived.Test.YtdngieihlcknmaaDoorOpenDef
namespace Go.Proofs.YtdngieihlcknmaaDoor
set_option linter.unusedVariables false
set_option linter.unusedSimpArgs false
open Go.RowKit
/-- Bytes that stand in a text at a place. -/
def standsL (l : List UInt8) (a : Nat) (t : List UInt8) : Prop := a + t.length ≤ l.length ∧ cutL l a (a + t.length) = t
def TagOk (l : List UInt8) (at_ : Nat) (t : MTag) : Prop :=
  at_ < t.off ∧ standsL l t.off t.name.data.toList ∧ standsL l (t.off + t.name.size) wEq ∧ t.pos = t.off + t.name.size + 2
def TagsOk (l : List UInt8) : Nat → List MTag → Prop
  | _, [] => True
  | a, t :: ts => TagOk l a t ∧ TagsOk l t.pos ts
def tagsEnd : Nat → List MTag → Nat
  | a, [] => a
  | _, t :: ts => tagsEnd t.pos ts
structure RowOk (l : List UInt8) (a : Nat) (r : MRow) : Prop where
  off : a ≤ r.off
  name : standsL l r.off r.name.data.toList
  pos : r.off + r.name.size ≤ r.pos
  text : r.kind = 3 ∨ standsL l r.pos r.text.data.toList
  tags : TagsOk l (r.off + r.name.size) r.tags
  fin : tagsEnd (r.off + r.name.size) r.tags < r.pos
  timed : r.timed = true → r.pos < r.when_ ∧ standsL l (r.when_ - 1) (32 :: (r.time.data.toList ++ [10]))
  not_ : r.timed = false → r.when_ = 0 ∧ r.time = mkS []
  kind : r.kind ≤ 3
def rowEnd (r : MRow) : Nat := max r.pos r.when_
def RowsOk (l : List UInt8) : Nat → List MRow → Prop
  | _, [] => True
  | a, r :: rs => RowOk l a r ∧ RowsOk l (rowEnd r) rs
def rowsEnd : Nat → List MRow → Nat
  | a, [] => a
  | _, r :: rs => rowsEnd (rowEnd r) rs
section
variable {l : List UInt8}
theorem stands_nil {a : Nat} (h : a ≤ l.length) : standsL l a [] := ⟨by simpa using h, by simp [cutL]⟩
theorem stands_cut {a b : Nat} (h : a ≤ b) (hb : b ≤ l.length) : standsL l a (cutL l a b) := by
  unfold standsL
  rw [cutL_len l a b hb, show a + (b - a) = b by omega]
  exact ⟨hb, rfl⟩
theorem cutL_app {a b c : Nat} (h : a ≤ b) (h2 : b ≤ c) : cutL l a c = cutL l a b ++ cutL l b c := by
  unfold cutL
  rw [show c - a = (b - a) + (c - b) by omega, List.take_add, List.drop_drop, show a + (b - a) = b by omega]
theorem stands_app {a : Nat} {t u : List UInt8} (h : standsL l a t) (h2 : standsL l (a + t.length) u) : standsL l a (t ++ u) := by
  refine ⟨by have := h2.1; rw [List.length_append]; omega, ?_⟩
  rw [List.length_append, cutL_app (b := a + t.length) (by omega) (by omega), h.2, ← Nat.add_assoc, h2.2]
theorem stands_one {a : Nat} {c : UInt8} (h : isB l a false c.toNat = true) : standsL l a [c] := by
  obtain ⟨h1, _, h2⟩ := isB_lt h
  refine ⟨by simp; omega, ?_⟩
  unfold cutL
  rw [List.drop_eq_getElem_cons h1]
  rw [bt_get h1] at h2
  have h3 : l[a].toNat = c.toNat := by omega
  simp [UInt8.toNat_inj.1 h3]
theorem r_wno (w : List UInt8) (a : Nat) : wordS l w a true = (a, true) := by cases w <;> simp [wordS]
theorem word_stands : ∀ (w : List UInt8) {a : Nat} {no : Bool}, a ≤ l.length → (wordS l w a no).2 = false → no = false ∧ (wordS l w a no).1 = a + w.length ∧ standsL l a w
  | w, a, true, _, h => by rw [r_wno] at h; cases h
  | [], a, false, ha, _ => ⟨rfl, rfl, stands_nil ha⟩
  | c :: cs, a, false, ha, h => by
    unfold wordS at h ⊢
    rw [if_neg (by decide)] at h ⊢
    split at h
    · rename_i hi
      rw [if_pos hi]
      obtain ⟨_, h2, h3⟩ := word_stands cs (by have := (isB_lt hi).1; omega) h
      refine ⟨rfl, by rw [h2, List.length_cons]; omega, ?_⟩
      have := stands_app (stands_one hi) (by simpa using h3)
      simpa using this
    · cases h
theorem r_some_no {p : Int → Bool} {a : Nat} {no : Bool} (h : (someS l p a no).2 = false) : no = false := by
  unfold someS at h
  split at h
  · cases h
  · rename_i h1; simpa using h1
theorem r_nm_no {p : Int → Bool} {a : Nat} {no : Bool} (h : (nmS l p a no).2 = false) : no = false := by
  have := r_some_no h
  cases no <;> simp_all
theorem r_some_lt {p : Int → Bool} {a : Nat} {no : Bool} (ha : a ≤ l.length) (h : (someS l p a no).2 = false) : a < (someS l p a no).1 := by
  have h1 := r_some_no h
  subst h1
  have := (whA_le l p a ha).1
  simp [someS] at h ⊢
  omega
theorem r_dec_no {a : Nat} {no : Bool} (h : (decS l a no).2 = false) : no = false := by
  unfold decS numS at h
  cases no
  · rfl
  · simp at h
theorem r_ink_no {e n : Int} {m : List UInt8} {a : Nat} {no : Bool} (h : (ink l e m n a no).2.2 = false) : no = false := by
  unfold ink at h
  cases no
  · rfl
  · simp at h
theorem r_tags_no {a : Nat} {no : Bool} (h : (otagsS l a no).2.2 = false) : no = false := by
  unfold otagsS at h
  cases no
  · rfl
  · simp [isB_no] at h
theorem mkS_bytes (x : List UInt8) : (mkS x).data.toList = x := rfl
theorem mkS_size' (x : List UInt8) : (mkS x).size = x.length := rfl
theorem r_otag_ok {a b : Nat} (ha : a ≤ l.length) (hb : b < a) (h : (otagS l a false).2.2 = false) : TagOk l b (otagS l a false).1 ∧ (otagS l a false).1.pos < (otagS l a false).2.1 ∧ (otagS l a false).2.1 ≤ l.length := by
  have hle := (otagS_le (l := l) false ha).2
  unfold otagS at h hle ⊢
  simp only at h hle ⊢
  have h1 := nmS_le (l := l) owLabel false ha
  generalize hk : nmS l owLabel a false = k at h h1 hle ⊢
  have h2 := wordS_le l wEq k.1 k.2 h1.2
  generalize he : wordS l wEq k.1 k.2 = e at h h2 hle ⊢
  have h3 := ink_le l 34 inV 110 e.1 e.2 h2.2
  generalize hv : ink l 34 inV 110 e.1 e.2 = v at h h3 hle ⊢
  have q1 := word_stands [34] h3.2.1 h
  have e2 : e.2 = false := r_ink_no (l := l) (a := e.1) (by rw [hv]; exact q1.1)
  have q2 := word_stands wEq h1.2 (by rw [he]; exact e2)
  have hl : (cutL l a k.1).length = k.1 - a := cutL_len l a _ h1.2
  have h5 : a + (k.1 - a) = k.1 := by omega
  refine ⟨⟨hb, ?_, ?_, ?_⟩, ?_, hle⟩
  · exact stands_cut h1.1 h1.2
  · simp only [mkS_size', hl, h5]; exact q2.2.2
  · simp only [mkS_size', hl, h5]; rw [← he, q2.2.1]; rfl
  · rw [q1.2.1]; simp; omega
theorem tagsOk_app {b : Nat} : ∀ {x y : List MTag}, TagsOk l b x → TagsOk l (tagsEnd b x) y → TagsOk l b (x ++ y)
  | [], y, _, h => h
  | t :: ts, y, h, h2 => ⟨h.1, tagsOk_app (x := ts) h.2 h2⟩
theorem tagsEnd_app {b : Nat} : ∀ {x y : List MTag}, tagsEnd b (x ++ y) = tagsEnd (tagsEnd b x) y
  | [], y => rfl
  | t :: ts, y => tagsEnd_app (b := t.pos) (x := ts)
theorem otagsGo_ok : ∀ (f a b : Nat) (no : Bool) (acc : List MTag), a ≤ l.length → TagsOk l b acc → tagsEnd b acc < a → (otagsGo l f a no acc).2.2 = false → TagsOk l b (otagsGo l f a no acc).1 ∧ tagsEnd b (otagsGo l f a no acc).1 < (otagsGo l f a no acc).2.1
  | 0, a, b, no, acc, ha, h1, h2, h => by cases h
  | f + 1, a, b, no, acc, ha, h1, h2, h => by
    unfold otagsGo at h ⊢
    split at h
    · cases h
    rename_i hno
    rw [if_neg hno]
    split at h
    · rename_i hi
      rw [if_pos hi]
      have hi2 := isB_lt hi
      obtain ⟨k1, k2, k3⟩ := r_otag_ok ha h2 hi2.2.1
      exact otagsGo_ok f _ b false _ (by omega) (tagsOk_app h1 ⟨k1, trivial⟩) (by rw [tagsEnd_app]; show (otagS l a false).1.pos < _; omega) h
    · rename_i hi
      rw [if_neg hi]
      obtain ⟨k1, k2, k3⟩ := r_otag_ok ha h2 h
      exact ⟨tagsOk_app h1 ⟨k1, trivial⟩, by rw [tagsEnd_app]; exact k2⟩
theorem r_otags_ok {a : Nat} {no : Bool} (ha : a ≤ l.length) (h : (otagsS l a no).2.2 = false) : TagsOk l a (otagsS l a no).1 ∧ tagsEnd a (otagsS l a no).1 ≤ (otagsS l a no).2.1 := by
  unfold otagsS at h ⊢
  split
  · rename_i hi
    rw [if_pos hi] at h
    have := (isB_lt hi).1
    split
    · exact ⟨trivial, by show a ≤ a + 2; omega⟩
    · rename_i hj
      rw [if_neg hj] at h
      simp only at h ⊢
      have h1 := otagsGo_le (l := l) (l.length + 1) (a + 1) false [] (by omega)
      have q := word_stands [125] h1.2 h
      have k := otagsGo_ok (l.length + 1) (a + 1) a false [] (by omega) trivial (by show a < a + 1; omega) q.1
      refine ⟨k.1, ?_⟩
      rw [q.2.1]
      have := k.2
      omega
  · exact ⟨trivial, Nat.le_refl _⟩
theorem r_samp_ok {a b : Nat} (ha : a ≤ l.length) (hb : b ≤ a) (h : (sampS l a false).2.2 = false) : RowOk l b (sampS l a false).1 ∧ rowEnd (sampS l a false).1 ≤ (sampS l a false).2.1 := by
  have hle := (sampS_le (l := l) false ha).2
  unfold sampS at h hle ⊢
  simp only at h hle ⊢
  have h1 := nmS_le (l := l) owName false ha
  generalize hn : nmS l owName a false = n at h h1 hle ⊢
  have h2 := otagsS_le (l := l) n.2 h1.2
  have T := r_otags_ok (l := l) (a := n.1) (no := n.2) h1.2
  generalize ht : otagsS l n.1 n.2 = t at h h2 hle T ⊢
  have h3 := wordS_le l [32] t.2.1 t.2.2 h2.2
  have W := word_stands (l := l) [32] (a := t.2.1) (no := t.2.2) h2.2
  generalize hw : wordS l [32] t.2.1 t.2.2 = w at h h3 hle W ⊢
  have h4 := decS_le l w.1 w.2 h3.2
  have D := r_dec_no (l := l) (a := w.1) (no := w.2)
  generalize hd : decS l w.1 w.2 = d at h h4 hle D ⊢
  have hl : (cutL l a n.1).length = n.1 - a := cutL_len l a _ h1.2
  have h5 : a + (n.1 - a) = n.1 := by omega
  have key : d.2 = false → TagsOk l n.1 t.1 ∧ tagsEnd n.1 t.1 < w.1 := by
    intro hd2
    have W2 := W (D hd2)
    have T2 := T W2.1
    exact ⟨T2.1, by rw [W2.2.1]; have := T2.2; simp; omega⟩
  split at h
  · rename_i hi
    rw [if_pos hi] at hle ⊢
    simp only at h hle ⊢
    have hi2 := isB_lt hi
    have h6 := decS_le l (d.1 + 1) false (by omega)
    generalize decS l (d.1 + 1) false = z at h h6 hle ⊢
    have Z := word_stands [10] h6.2 h
    obtain ⟨k1, k2⟩ := key hi2.2.1
    refine ⟨⟨hb, stands_cut h1.1 h1.2, ?_, .inr (stands_cut h4.1 h4.2), ?_, ?_, fun _ => ⟨by simp only; omega, ?_⟩, fun q => (by cases q), Nat.zero_le _⟩, ?_⟩
    · simp only [mkS_size', hl]; omega
    · simp only [mkS_size', hl, h5]; exact k1
    · simp only [mkS_size', hl, h5]; exact k2
    · simp only [Nat.add_sub_cancel, mkS_bytes]
      have hi' : isB l d.1 false ((32 : UInt8).toNat : Int) = true := by rw [← hi2.2.1]; exact hi
      have s1 := stands_one hi'
      have s2 := stands_cut (l := l) h6.1 h6.2
      have hzl : (cutL l (d.1 + 1) z.1).length = z.1 - (d.1 + 1) := cutL_len l _ _ h6.2
      have s3 := stands_app s2 (u := [10]) (by rw [hzl, show d.1 + 1 + (z.1 - (d.1 + 1)) = z.1 by omega]; exact Z.2.2)
      exact stands_app s1 s3
    · unfold rowEnd
      simp only
      rw [Z.2.1]
      simp
      omega
  · rename_i hi
    rw [if_neg hi] at hle ⊢
    simp only at h hle ⊢
    have Z := word_stands [10] h4.2 h
    obtain ⟨k1, k2⟩ := key Z.1
    refine ⟨⟨hb, stands_cut h1.1 h1.2, ?_, .inr (stands_cut h4.1 h4.2), ?_, ?_, fun q => (by cases q), fun _ => ⟨rfl, rfl⟩, Nat.zero_le _⟩, ?_⟩
    · simp only [mkS_size', hl]; omega
    · simp only [mkS_size', hl, h5]; exact k1
    · simp only [mkS_size', hl, h5]; exact k2
    · unfold rowEnd
      simp only
      rw [Z.2.1]
      simp
      omega
theorem r_told_ok {kind a b : Nat} {word : List UInt8} (hk : kind = 1 ∨ kind = 2 ∨ kind = 3) (ha : a ≤ l.length) (hb : b ≤ a) {no : Bool} (h : (otoldS l kind word a no).2.2 = false) : RowOk l b (otoldS l kind word a no).1 ∧ rowEnd (otoldS l kind word a no).1 ≤ (otoldS l kind word a no).2.1 := by
  unfold otoldS at h ⊢
  simp only at h ⊢
  have h1 := wordS_le l word a no ha
  generalize hw : wordS l word a no = w at h h1 ⊢
  have h2 := nmS_le (l := l) owName w.2 h1.2
  generalize hn : nmS l owName w.1 w.2 = n at h h2 ⊢
  have h3 := wordS_le l [32] n.1 n.2 h2.2
  have B := word_stands (l := l) [32] (a := n.1) (no := n.2) h2.2
  generalize hbb : wordS l [32] n.1 n.2 = z at h h3 B ⊢
  have h4 := otextS_le (l := l) (kind := kind) z.2 h3.2
  have T : (otextS l kind z.1 z.2).2.2 = false → z.2 = false ∧ (kind = 3 ∨ standsL l z.1 (otextS l kind z.1 z.2).1) := by
    intro q
    rcases hk with rfl | rfl | rfl
    · simp only [otextS, if_true] at q ⊢
      have := r_some_no q
      have := someS_le l smB z.1 z.2 h3.2
      exact ⟨by assumption, .inr (stands_cut this.1 this.2)⟩
    · simp only [otextS, if_true, Nat.reduceEqDiff, if_false] at q ⊢
      have := r_some_no q
      have := someS_le l owName z.1 z.2 h3.2
      exact ⟨by assumption, .inr (stands_cut this.1 this.2)⟩
    · simp only [otextS, Nat.reduceEqDiff, if_false] at q ⊢
      exact ⟨r_ink_no q, .inl trivial⟩
  generalize otextS l kind z.1 z.2 = t at h h4 T ⊢
  have L := word_stands [10] h4.2 h
  obtain ⟨k1, k2⟩ := T L.1
  have k3 := B k1
  have hl : (cutL l w.1 n.1).length = n.1 - w.1 := cutL_len l _ _ h2.2
  have k4 : z.1 = n.1 + 1 := k3.2.1
  refine ⟨⟨by simp only; omega, stands_cut h2.1 h2.2, ?_, k2, trivial, ?_, fun q => (by cases q), fun _ => ⟨rfl, rfl⟩, by (simp only); omega⟩, ?_⟩
  · simp only [mkS_size', hl]; omega
  · simp only [mkS_size', hl, tagsEnd]; omega
  · unfold rowEnd
    simp only
    rw [L.2.1]
    simp
    omega
theorem r_oline_ok {a b : Nat} (ha : a ≤ l.length) (hb : b ≤ a) (h : (olineS l a).2.2 = false) : ((olineS l a).1.2 = false ∧ ∃ r, (olineS l a).1.1 = some r ∧ RowOk l b r ∧ rowEnd r ≤ (olineS l a).2.1) ∨ ((olineS l a).1.2 = true ∧ (olineS l a).1.1 = none) := by
  unfold olineS at h ⊢
  split
  · rename_i hq
    rw [if_pos hq] at h
    have h1 := wordS_le l wHash a false ha
    simp only at h ⊢
    generalize wordS l wHash a false = w at h h1 ⊢
    split
    · rename_i h2
      rw [if_pos h2] at h
      have := r_told_ok (.inl rfl) h1.2 (Nat.le_trans hb h1.1) h
      exact .inl ⟨rfl, _, rfl, this⟩
    rename_i h2
    rw [if_neg h2] at h
    split
    · rename_i h3
      rw [if_pos h3] at h
      have := r_told_ok (.inr (.inl rfl)) h1.2 (Nat.le_trans hb h1.1) h
      exact .inl ⟨rfl, _, rfl, this⟩
    rename_i h3
    rw [if_neg h3] at h
    split
    · rename_i h4
      rw [if_pos h4] at h
      have := r_told_ok (.inr (.inr rfl)) h1.2 (Nat.le_trans hb h1.1) h
      exact .inl ⟨rfl, _, rfl, this⟩
    · exact .inr ⟨rfl, rfl⟩
  · rename_i hq
    rw [if_neg hq] at h
    exact .inl ⟨rfl, _, rfl, r_samp_ok ha hb h⟩
theorem rowsOk_app {b : Nat} : ∀ {x y : List MRow}, RowsOk l b x → RowsOk l (rowsEnd b x) y → RowsOk l b (x ++ y)
  | [], y, _, h => h
  | t :: ts, y, h, h2 => ⟨h.1, rowsOk_app (x := ts) h.2 h2⟩
theorem rowsEnd_app {b : Nat} : ∀ {x y : List MRow}, rowsEnd b (x ++ y) = rowsEnd (rowsEnd b x) y
  | [], y => rfl
  | t :: ts, y => rowsEnd_app (b := rowEnd t) (x := ts)
theorem orowsGo_ok : ∀ (f a : Nat) (acc : List MRow), a ≤ l.length → RowsOk l 0 acc → rowsEnd 0 acc ≤ a → (orowsGo l f a acc).2.2 = false → RowsOk l 0 (orowsGo l f a acc).1 ∧ rowsEnd 0 (orowsGo l f a acc).1 ≤ l.length
  | 0, a, acc, ha, h1, h2, h => by cases h
  | f + 1, a, acc, ha, h1, h2, h => by
    have hle := olineS_le (l := l) ha
    have hok := r_oline_ok ha h2
    unfold orowsGo at h ⊢
    split at h
    · rename_i h3
      rw [if_pos h3]
      rcases hok h with ⟨q, _⟩ | ⟨_, q⟩
      · rw [q] at h3; cases h3
      · rw [q]; simp only [Option.toList, List.append_nil]; exact ⟨h1, by omega⟩
    · rename_i h3
      rw [if_neg h3]
      split at h
      · cases h
      · rename_i h4
        rw [if_neg h4]
        rcases hok (by simpa using h4) with ⟨_, r, hr, k1, k2⟩ | ⟨q, _⟩
        · rw [hr] at h ⊢
          simp only [Option.toList] at h ⊢
          exact orowsGo_ok f _ _ hle.2 (rowsOk_app h1 ⟨k1, trivial⟩) (by rw [rowsEnd_app]; exact k2) h
        · exact absurd q h3
theorem open_rows (h : (openRows l).2.2 = false) : RowsOk l 0 (openRows l).1 ∧ rowsEnd 0 (openRows l).1 ≤ l.length := by
  unfold openRows at h ⊢
  simp only at h ⊢
  refine orowsGo_ok (l.length + 2) 0 [] (Nat.zero_le _) trivial (Nat.le_refl _) ?_
  generalize (orowsGo l (l.length + 2) 0 []).2 = z at h
  obtain ⟨p, n⟩ := z
  cases n
  · rfl
  · simp [oendS] at h
end
end Go.Proofs.YtdngieihlcknmaaDoor
