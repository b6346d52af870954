/- The line format: a line that is written of a measurement, a tag, a field's text is read as they were (no program in sight). -/
import Derived.Test.YtdngieihlcknmaaLineQ
namespace Go.Proofs.Ytdngieihlcknmaa
set_option linter.unusedVariables false
set_option linter.unusedSimpArgs false
open Go.RowKit
set_option maxRecDepth 4000
/-- A byte of a name: from 32 to 126, no backslash. -/
def NameB (v : List UInt8) : Prop := ∀ c ∈ v, 32 ≤ c.toNat ∧ c.toNat < 127 ∧ c.toNat ≠ 92
def ValB (v : List UInt8) : Prop := badU v = -1 ∧ ∀ c ∈ v, 32 ≤ c.toNat ∧ c.toNat ≠ 127 ∧ c.toNat ≠ 92
theorem name_chunks {v : List UInt8} (h : NameB v) : ∃ xs : List (List UInt8), v = xs.flatten ∧ ∀ x ∈ xs, Chunk false x := by
  refine ⟨v.map fun c => [c], by induction v with
    | nil => rfl
    | cons c v ih => rw [List.map_cons, List.flatten_cons, ← ih (fun d hd => h d (List.mem_cons_of_mem _ hd))]; rfl, fun x hx => ?_⟩
  obtain ⟨c, hc, rfl⟩ := List.mem_map.1 hx
  exact .inl ⟨c, rfl, h c hc⟩
theorem scal_one {c : UInt8} (h : Scal [c]) : c.toNat < 128 := by
  have hf := h.2
  unfold frontU at hf
  have hb : bt [c] 0 = c.toNat := rfl
  split at hf
  · injection hf with _ e; cases e
  · rename_i hz
    have hn := frGo_le [c] 0 (uSize (bt [c] 0)) 4 1 (by omega) (by have := uSize_le (bt [c] 0); omega) (by simp)
    rw [hf] at hn
    have hu : [c].length = uSize (bt [c] 0) := hn.2.2.2 rfl
    rw [hb] at hu
    unfold uSize at hu
    split at hu
    · omega
    · (repeat' split at hu) <;> simp at hu
theorem val_chunks {v : List UInt8} (h : ValB v) : ∃ xs : List (List UInt8), v = xs.flatten ∧ ∀ x ∈ xs, Chunk true x := by
  obtain ⟨xs, hx, hall⟩ := badU_scal h.1
  refine ⟨xs, hx, fun x hxm => ?_⟩
  have hs := hall x hxm
  rcases Nat.lt_or_ge 1 x.length with h2 | h2
  · exact .inr ⟨rfl, h2, hs⟩
  · obtain ⟨c, rfl⟩ : ∃ c, x = [c] := by
      have : x.length ≠ 0 := fun e => hs.1 (List.length_eq_zero_iff.1 e)
      exact List.length_eq_one_iff.1 (by omega)
    have h3 := h.2 c (by rw [hx]; exact List.mem_flatten.2 ⟨_, hxm, List.mem_cons_self⟩)
    have := scal_one hs
    exact .inl ⟨c, rfl, h3.1, by omega, h3.2.2⟩
theorem isB_no2 {l : List UInt8} {p : Nat} {c : UInt8} {r : List UInt8} (h : l.drop p = c :: r) {d : Int} (hd : (c.toNat : Int) ≠ d) : isB l p false d = false := by
  rw [drop_isB h, beq_eq_false_iff_ne]; exact hd
theorem isB_yes2 {l : List UInt8} {p : Nat} {c : UInt8} {r : List UInt8} (h : l.drop p = c :: r) {d : Int} (hd : (c.toNat : Int) = d) : isB l p false d = true := by
  rw [drop_isB h, beq_iff_eq]; exact hd
theorem word_one {l : List UInt8} {p : Nat} {c : UInt8} {r : List UInt8} (h : l.drop p = c :: r) : wordS l [c] p false = (p + 1, false) := by
  rw [word1, isB_yes2 h rfl, if_pos rfl]
theorem mark_head {m v : List UInt8} {y : UInt8} {r : List UInt8} (h : v ≠ []) : ∃ z t, markL m v ++ y :: r = z :: t ∧ (z.toNat = 92 ∨ z ∈ v.head?) := by
  cases v with
  | nil => exact absurd rfl h
  | cons c v =>
    rw [show c :: v = [c] ++ v from rfl, markL_app, markL_one]
    by_cases hq : isMk m c = true
    · rw [if_pos hq]; exact ⟨92, _, rfl, .inl rfl⟩
    · rw [if_neg hq]; exact ⟨c, _, rfl, .inr (by simp)⟩
/-- A name's sgn. -/
theorem sgn_name {l v : List UInt8} {m : List UInt8} (hm : ∀ d ∈ m, d.toNat < 128) (h32 : isMk m 32 = true) {y : UInt8} {r : List UInt8} (hy : isMk m y = true) (hy2 : y.toNat ≠ 92) (hy3 : y.toNat < 128) {p : Nat} (hv : NameB v) (hne : v ≠ []) (h : l.drop p = markL m v ++ y :: r) :
    sgn l m false p false = (v, p + (markL m v).length, false) := by
  obtain ⟨xs, rfl, hall⟩ := name_chunks hv
  exact sgn_chunks hm h32 false hy hy2 hy3 hne hall h
theorem sgn_val {l v : List UInt8} {m : List UInt8} (hm : ∀ d ∈ m, d.toNat < 128) (h32 : isMk m 32 = true) {y : UInt8} {r : List UInt8} (hy : isMk m y = true) (hy2 : y.toNat ≠ 92) (hy3 : y.toNat < 128) {p : Nat} (hv : ValB v) (hne : v ≠ []) (h : l.drop p = markL m v ++ y :: r) :
    sgn l m true p false = (v, p + (markL m v).length, false) := by
  obtain ⟨xs, rfl, hall⟩ := val_chunks hv
  exact sgn_chunks hm h32 true hy hy2 hy3 hne hall h
theorem ink_text {l v r : List UInt8} {p : Nat} (hv : badU v = -1) (h10 : (10 : UInt8) ∉ v) (h : l.drop p = markL inT v ++ 34 :: r) :
    ink l 34 inT 110 p false = (v, p + (markL inT v).length, false) := by
  obtain ⟨xs, rfl, hall⟩ := badU_scal hv
  have hp : p < l.length := by
    rcases Nat.lt_or_ge p l.length with h' | h'
    · exact h'
    · rw [List.drop_of_length_le h'] at h; simp at h
  unfold ink
  rw [if_neg (by simp)]
  have := inkS_scal (l := l) (y := 34) (r' := r) rfl xs (l.length + 1) p [] (fun x hx => ⟨hall x hx, fun h => h10 (List.mem_flatten.2 ⟨x, hx, h⟩)⟩) h (by omega)
  rw [this]; rfl
/-- The line that is written. -/
def quoteLine (a b c d e : List UInt8) : List UInt8 :=
  markL inM a ++ 44 :: (markL inK b ++ 61 :: (markL inK c ++ 32 :: (markL inK d ++ 61 :: 34 :: (markL inT e ++ 34 :: [10]))))
def QuotedRow (a b c d e : List UInt8) (R : MRow) : Prop :=
  R.name = mkS a ∧ R.timed = false ∧ (∃ t, R.tags = [t] ∧ t.name = mkS b ∧ t.value = mkS c) ∧ ∃ f, R.fields = [f] ∧ f.name = mkS d ∧ f.value = mkS e ∧ f.kind = 4
theorem line_quotes {a b c d e : List UInt8} (ha : NameB a) (ha0 : a ≠ []) (ha1 : (35 : UInt8) ∉ a.head?) (hb : NameB b) (hb0 : b ≠ []) (hc : ValB c) (hc0 : c ≠ []) (hd : NameB d) (hd0 : d ≠ []) (he : badU e = -1) (he1 : (10 : UInt8) ∉ e) :
    ∃ R, lineRows (quoteLine a b c d e) = ([R], (quoteLine a b c d e).length, false) ∧ QuotedRow a b c d e R := by
  obtain ⟨l, hl⟩ : ∃ l, quoteLine a b c d e = l := ⟨_, rfl⟩
  rw [hl]
  have hmM : ∀ x ∈ inM, x.toNat < 128 := by decide
  have hmK : ∀ x ∈ inK, x.toNat < 128 := by decide
  have g0 : l.drop 0 = markL inM a ++ 44 :: (markL inK b ++ 61 :: (markL inK c ++ 32 :: (markL inK d ++ 61 :: 34 :: (markL inT e ++ 34 :: [10])))) := by rw [List.drop_zero, ← hl]; rfl
  have h1 := sgn_name hmM (by decide) (by decide) (by decide) (by decide) ha ha0 g0
  have h35 : isB l 0 false 35 = false := by
    obtain ⟨z, t, hz, hz2⟩ := mark_head (m := inM) (y := 44) (r := (markL inK b ++ 61 :: (markL inK c ++ 32 :: (markL inK d ++ 61 :: 34 :: (markL inT e ++ 34 :: [10]))))) ha0
    rw [hz] at g0
    refine isB_no2 g0 ?_
    rcases hz2 with hz2 | hz2
    · omega
    · intro h
      have : z = 35 := UInt8.toNat_inj.1 (by show z.toNat = 35; omega)
      rw [this] at hz2; exact ha1 hz2
  have g1 := drop_app g0
  generalize hp1 : 0 + (markL inM a).length = p1 at h1 g1
  have g2 := drop_one g1
  have h2 := sgn_name hmK (by decide) (by decide) (by decide) (by decide) hb hb0 g2
  have g3 := drop_app g2
  generalize hp2 : p1 + 1 + (markL inK b).length = p2 at h2 g3
  have w3 := word_one g3
  have g4 := drop_one g3
  have h4 := sgn_val hmK (by decide) (by decide) (by decide) (by decide) hc hc0 g4
  have g5 := drop_app g4
  generalize hp3 : p2 + 1 + (markL inK c).length = p3 at h4 g5
  have w5 := word_one g5
  have g6 := drop_one g5
  have h6 := sgn_name hmK (by decide) (by decide) (by decide) (by decide) hd hd0 g6
  have g7 := drop_app g6
  generalize hp4 : p3 + 1 + (markL inK d).length = p4 at h6 g7
  have w7 := word_one g7
  have g8 := drop_one g7
  have g9 := drop_one g8
  have h9 := ink_text he he1 g9
  have g10 := drop_app g9
  generalize hp5 : p4 + 1 + 1 + (markL inT e).length = p5 at h9 g10
  have w10 := word_one g10
  have g11 := drop_one g10
  have w11 := word_one g11
  have g12 := drop_one g11
  have hend : p5 + 1 + 1 = l.length := drop_nil g12 (by have := (drop_bt g11).1; omega)
  have hlen : 0 < l.length := by omega
  have htag : tagS l (p1 + 1) false = (⟨mkS b, mkS c, p1 + 1, p2 + 1⟩, p3, false) := by
    unfold tagS; simp only [h2, w3, h4]
  have htags : tagsS l (l.length + 1) p1 false [] = ([⟨mkS b, mkS c, p1 + 1, p2 + 1⟩], p3, false) := by
    obtain ⟨n, hn⟩ : ∃ n, l.length + 1 = n + 1 + 1 := ⟨l.length - 1, by omega⟩
    rw [hn]
    unfold tagsS
    rw [isB_yes2 g1 (by decide), if_pos rfl, htag]
    simp only [List.nil_append]
    unfold tagsS
    rw [isB_no2 g5 (by decide), if_neg (by simp)]
  have htold : toldS l (p4 + 1) false = ((4, e, p4 + 1 + 1), p5 + 1, false) := by
    unfold toldS
    rw [isB_no2 g8 (by decide), isB_no2 g8 (by decide), isB_yes2 g8 (by decide)]
    simp only [Bool.false_eq_true, if_false, if_true, h9, w10]
    unfold inkV
    rw [h9]; rfl
  have hfield : fieldS l (p3 + 1) false = (⟨mkS d, mkS e, p3 + 1, p4 + 1 + 1, 4⟩, p5 + 1, false) := by
    unfold fieldS; simp only [h6, w7, htold]
  have hfields : fieldsS l (l.length + 1) (p3 + 1) false [] = ([⟨mkS d, mkS e, p3 + 1, p4 + 1 + 1, 4⟩], p5 + 1, false) := by
    unfold fieldsS
    rw [hfield]
    simp only [isB_no2 g11 (show (((10 : UInt8).toNat : Nat) : Int) ≠ 44 by decide), Bool.false_eq_true, if_false, List.nil_append]
  have hline : lineS l 0 = (⟨0, mkS a, 0, [⟨mkS b, mkS c, p1 + 1, p2 + 1⟩], [⟨mkS d, mkS e, p3 + 1, p4 + 1 + 1, 4⟩], mkS [], 0, false, mkS [], 0⟩, p5 + 1 + 1, false) := by
    unfold lineS
    simp only [h35, h1, htags, w5, hfields, isB_no2 g11 (show (((10 : UInt8).toNat : Nat) : Int) ≠ 32 by decide), Bool.false_eq_true, if_false, w11]
  refine ⟨⟨0, mkS a, 0, [⟨mkS b, mkS c, p1 + 1, p2 + 1⟩], [⟨mkS d, mkS e, p3 + 1, p4 + 1 + 1, 4⟩], mkS [], 0, false, mkS [], 0⟩, ?_, rfl, rfl, ⟨_, rfl, rfl, rfl⟩, _, rfl, rfl, rfl, rfl⟩
  · unfold lineRows
    obtain ⟨n, hn⟩ : ∃ n, l.length + 1 = n + 1 + 1 := ⟨l.length - 1, by omega⟩
    rw [hn]
    unfold rowsGo
    rw [if_neg (by omega), hline]
    simp only [Bool.false_eq_true, if_false, List.nil_append]
    unfold rowsGo
    rw [if_pos (by omega), hend]
end Go.Proofs.Ytdngieihlcknmaa
