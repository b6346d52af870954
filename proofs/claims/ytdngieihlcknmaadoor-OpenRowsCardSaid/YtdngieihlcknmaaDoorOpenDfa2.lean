/- The open format's machine of states: a line, a text; ends that close each state (no program in sight). -/
import Derived.Test.YtdngieihlcknmaaDoorOpenDfa
namespace Go.Proofs.YtdngieihlcknmaaDoor
set_option linter.unusedVariables false
set_option linter.unusedSimpArgs false
open Go.RowKit
section
variable {l : List UInt8}
theorem gs_wordQ {w : List UInt8} {qs : List OQ} {q q' : OQ} {a : Nat} (h1 : qs.length + 1 = w.length) (h2 : ∀ i (hi : i < w.length), acO ((q :: qs).getD i q) = false ∧ stO ((q :: qs).getD i q) (w[i].toNat) = some ((qs ++ [q']).getD i q) ∧ ∀ d : Int, d ≠ w[i].toNat → stO ((q :: qs).getD i q) d = none) : Gs (W l q a) (wordS l w a false) (W l q') :=
  vd_word w qs q q' a h1 h2
theorem gs_eq {a : Nat} : Gs (fk1 l 61 .gq a) (wordS l wEq a false) (W l .v) := by
  unfold fk1
  cases k : isB l a false 61
  · have : wordS l wEq a false = (a, true) := by
      unfold wEq wordS; rw [if_neg (by simp)]
      have k2 : isB l a false ((61 : UInt8).toNat : Int) = false := k
      rw [k2]; simp
    rw [this]; rfl
  · have e : wordS l wEq a false = wordS l [34] (a + 1) false := word_head (c := 61) k
    rw [e, if_pos rfl]
    have h := fk1_of (l := l) (q := .gq) (q' := .v) (c := 34) (p := a + 1) rfl (fun _ => rfl)
    rw [h]
    exact gs_word1 34 .v (a + 1)
/-- A label. -/
theorem gs_tag {q0 : OQ} {a : Nat} (ha : a ≤ l.length) (hac : acO q0 = false) (h0 : a < l.length → stO q0 (bt l a) = if fstB owLabel (bt l a) then some .g else none) : Gs (W l q0 a) (otagS l a false).2 (fk2 l 44 .g1 125 .sp) := by
  have h1 := gs_nm1 (l := l) (P := owLabel) (q0 := q0) (q := .g) (q' := .gq) (c := 61) (a := a) hac rfl h0 (fun d => rfl)
  have l1 := nmS_le (l := l) owLabel false ha
  have h2 := Gs.bind (F := fun p no => wordS l wEq p no) h1 (word_no _ _ _) (fun _ => gs_eq)
  have l2 := wordS_le l wEq (nmS l owLabel a false).1 (nmS l owLabel a false).2 l1.2
  have h3 := Gs.bind (F := fun p no => (ink l 34 inV 110 p no).2) h2 (ink_no _ _ _ _) (fun _ => gs_v l2.2)
  have h4 := Gs.bind (F := fun p no => wordS l [34] p no) h3 (word_no _ _ _) (fun _ => gs_word1 34 .vz _)
  exact gs_then h4 (fun _ => fk2_of rfl (fun _ => rfl))
theorem gs_tagsGo : ∀ f a acc q0, l.length < f + a → a ≤ l.length → acO q0 = false → (a < l.length → stO q0 (bt l a) = if fstB owLabel (bt l a) then some .g else none) → Gs (W l q0 a) (otagsGo l f a false acc).2 (fk1 l 125 .sp)
  | 0, a, acc, q0, hf, ha, _, _ => by omega
  | f + 1, a, acc, q0, hf, ha, hac, h0 => by
    have ht := gs_tag ha hac h0
    have hle := otagS_le (l := l) false ha
    rw [otagsGo_step, if_neg (by simp)]
    cases k : isB l (otagS l a false).2.1 (otagS l a false).2.2 44
    · rw [if_neg (by simp)]
      refine gs_then ht (fun hr => ?_)
      rw [hr] at k
      unfold fk2
      rw [k, if_neg (by simp)]
    · rw [if_pos rfl]
      have hlt := isB_lt k
      unfold Gs at ht
      rw [hlt.2.1, if_neg (by simp)] at ht
      unfold fk2 at ht
      rw [hlt.2.1] at k
      rw [k, if_pos rfl] at ht
      rw [ht]
      exact gs_tagsGo f _ _ .g1 (by omega) (by omega) rfl (fun _ => rfl)
theorem gs_tags {p : Nat} (hp : p ≤ l.length) : Gs (fk2 l 123 .g0 32 (.d0 false) p) (otagsS l p false).2 (fk1 l 32 (.d0 false)) := by
  unfold otagsS fk2
  cases k : isB l p false 123
  · rw [if_neg (by simp), if_neg (by simp)]; rfl
  · have hlt := isB_lt k
    rw [if_pos rfl, if_pos rfl]
    cases k2 : isB l (p + 1) false 125
    · rw [if_neg (by simp)]
      have h1 := gs_tagsGo (l := l) (l.length + 1) (p + 1) [] .g0 (by omega) (by omega) rfl (fun hq => by
        show (if bt l (p + 1) = 125 then _ else _) = _
        rw [if_neg (isB_f k2 hq)])
      have h2 := Gs.bind (F := fun p no => wordS l [125] p no) h1 (word_no _ _ _) (fun _ => gs_word1 125 .sp _)
      exact gs_then h2 (fun _ => fk1_of rfl (fun _ => rfl))
    · have hk := isB_iff.1 k2
      rw [if_pos rfl]
      unfold Gs
      rw [if_neg (by simp)]
      have : W l .g0 (p + 1) = W l .sp (p + 1 + 1) := vd_yes hk.1 (by rw [hk.2]; rfl)
      rw [this]
      exact fk1_of rfl (fun _ => rfl)
/-- A sample. -/
theorem gs_samp {a : Nat} (ha : a ≤ l.length) (h35 : isB l a false 35 = false) : Gs (W l .line a) (sampS l a false).2 (W l .line) := by
  have h1 : Gs (W l .line a) (nmS l owName a false) (fk2 l 123 .g0 32 (.d0 false)) := by
    refine gs_then (gs_nm (q := .sn) rfl (fun hl => ?_) (fun c hc => ?_)) (fun hr => fk2_of rfl (fun hp => ?_))
    · show (if bt l a = 35 then _ else _) = _
      rw [if_neg (isB_f h35 hl)]
    · show (if owName c = true then _ else _) = _
      rw [if_pos hc]
    · show (if owName _ = true then _ else if _ = 123 then _ else if _ = 32 then _ else _) = _
      rw [if_neg (by rw [nm_stop hr hp]; simp)]
  have l1 := nmS_le (l := l) owName false ha
  unfold sampS
  simp only
  generalize nmS l owName a false = n at h1 l1 ⊢
  have h2 := Gs.bind (F := fun p no => (otagsS l p no).2) h1 (by simp [otagsS, isB_no]) (fun _ => gs_tags l1.2)
  have l2 := otagsS_le (l := l) n.2 l1.2
  try simp only at h2
  generalize otagsS l n.1 n.2 = t at h2 l2 ⊢
  have h3 := Gs.bind (F := fun p no => wordS l [32] p no) h2 (word_no _ _ _) (fun _ => gs_word1 32 (.d0 false) _)
  try simp only at h3
  generalize wordS l [32] t.2.1 t.2.2 = w at h3 ⊢
  have h4 := Gs.bind (F := fun p no => decS l p no) h3 (dec_no _) (fun _ => gs_dec)
  try simp only at h4
  generalize decS l w.1 w.2 = d at h4 ⊢
  cases k : isB l d.1 d.2 32
  · rw [if_neg (by simp)]
    refine Gs.bind (F := fun p no => wordS l [10] p no) (y := fk1 l 10 .line) (gs_then h4 (fun hr => ?_)) (word_no _ _ _) (fun _ => gs_word1 10 .line _)
    rw [hr] at k
    unfold aftV
    rw [k, if_neg (by simp)]
  · have hlt := isB_lt k
    rw [if_pos rfl]
    unfold Gs at h4
    rw [hlt.2.1] at h4 k
    rw [if_neg (by simp)] at h4
    unfold aftV at h4
    rw [if_pos ⟨rfl, k⟩] at h4
    rw [h4]
    have h5 := gs_dec (l := l) (m := true) (a := d.1 + 1)
    refine Gs.bind (F := fun p no => wordS l [10] p no) (y := fk1 l 10 .line) (gs_then h5 (fun hr => ?_)) (word_no _ _ _) (fun _ => gs_word1 10 .line _)
    unfold aftV
    rw [if_neg (by simp)]
/-- What is told of a family. -/
def kindQ : Nat → TK
  | 1 => .t
  | 2 => .u
  | _ => .h
theorem gs_text {K a : Nat} (ha : a ≤ l.length) (hK : K = 1 ∨ K = 2 ∨ K = 3) : Gs (W l (toldQ (kindQ K)) a) (otextS l K a false).2 (fk1 l 10 .line) := by
  rcases hK with rfl | rfl | rfl
  · exact gs_some1 (P := smB) (q := .xt) rfl rfl (fun _ => rfl) (fun _ => rfl)
  · exact gs_some1 (P := owName) (q := .xu) rfl rfl (fun _ => rfl) (fun _ => rfl)
  · exact gs_hh ha
theorem gs_told {K a : Nat} {word : List UInt8} {x : Int} (ha : a ≤ l.length) (hK : K = 1 ∨ K = 2 ∨ K = 3) (hw : Gs x (wordS l word a false) (W l (.n0 (kindQ K)))) : Gs x (otoldS l K word a false).2 (W l .line) := by
  unfold otoldS
  simp only
  have l1 := wordS_le l word a false ha
  generalize wordS l word a false = w at hw l1 ⊢
  have h2 := Gs.bind (F := fun p no => nmS l owName p no) hw (nm_no _ _) (fun _ => gs_nm1 (P := owName) (q := .n (kindQ K)) (q' := toldQ (kindQ K)) (c := 32) rfl rfl (fun _ => rfl) (fun _ => rfl))
  have l2 := nmS_le (l := l) owName w.2 l1.2
  try simp only at h2
  generalize nmS l owName w.1 w.2 = n at h2 l2 ⊢
  have h3 := Gs.bind (F := fun p no => wordS l [32] p no) h2 (word_no _ _ _) (fun _ => gs_word1 32 _ _)
  have l3 := wordS_le l [32] n.1 n.2 l2.2
  try simp only at h3
  generalize wordS l [32] n.1 n.2 = b at h3 l3 ⊢
  have h0 : (otextS l K b.1 true).2 = (b.1, true) := by
    rcases hK with rfl | rfl | rfl
    · simp [otextS, someS]
    · simp [otextS, someS]
    · exact ink_no (l := l) 10 inH 110 b.1
  have h4 := Gs.bind (F := fun p no => (otextS l K p no).2) h3 h0 (fun _ => gs_text l3.2 hK)
  try simp only at h4
  generalize otextS l K b.1 b.2 = t at h4 ⊢
  exact Gs.bind (F := fun p no => wordS l [10] p no) h4 (word_no _ _ _) (fun _ => gs_word1 10 _ _)
theorem gs_headed {c : UInt8} {cs : List UInt8} {qs : List OQ} {q0 q q' : OQ} {a : Nat} (hb : isB l a false c.toNat = true) (hst : stO q0 c.toNat = some q) (h1 : qs.length + 1 = cs.length) (h2 : ∀ i (hi : i < cs.length), acO ((q :: qs).getD i q) = false ∧ stO ((q :: qs).getD i q) (cs[i].toNat) = some ((qs ++ [q']).getD i q) ∧ ∀ d : Int, d ≠ cs[i].toNat → stO ((q :: qs).getD i q) d = none) : Gs (W l q0 a) (wordS l (c :: cs) a false) (W l q') := by
  have hk := isB_iff.1 hb
  rw [word_head hb]
  have : W l q0 a = W l q (a + 1) := vd_yes hk.1 (by rw [hk.2]; exact hst)
  rw [this]
  exact gs_wordQ h1 h2
theorem gs_line {a : Nat} (ha : a ≤ l.length) : Gs (W l .line a) (olineS l a).2 (if (olineS l a).1.2 = true then W l .e1 else W l .line) := by
  unfold olineS
  cases k : isB l a false 35
  · rw [if_neg (by simp)]
    exact gs_samp ha k
  · rw [if_pos rfl]
    have h1 : Gs (W l .line a) (wordS l wHash a false) (W l .h2) := gs_headed (c := 35) (cs := [32]) (qs := []) (q := .h1) k rfl rfl (fun i hi => by
      match i, hi with
      | 0, _ => exact ⟨rfl, rfl, fun d hd => if_neg hd⟩)
    have l1 := wordS_le l wHash a false ha
    simp only
    generalize wordS l wHash a false = w at h1 l1 ⊢
    obtain ⟨p, np⟩ := w
    cases np
    · unfold Gs at h1
      rw [if_neg (by simp)] at h1
      simp only at h1 l1 ⊢
      rw [h1]
      cases k1 : isB l p false 84
      · rw [if_neg (by simp)]
        cases k2 : isB l p false 85
        · rw [if_neg (by simp)]
          cases k3 : isB l p false 72
          · rw [if_neg (by simp)]
            simp only [if_true]
            cases k4 : isB l p false 69
            · have e : wordS l wEOF p false = (p, true) := by
                unfold wEOF wordS; rw [if_neg (by simp)]
                have k5 : isB l p false ((69 : UInt8).toNat : Int) = false := k4
                rw [k5]; simp
              rw [e]
              unfold Gs
              rw [if_pos rfl]
              by_cases hp : p < l.length
              · refine vd_no hp ?_
                show (if _ = 84 then _ else if _ = 85 then _ else if _ = 72 then _ else if _ = 69 then _ else _) = _
                rw [if_neg (isB_f k1 hp), if_neg (isB_f k2 hp), if_neg (isB_f k3 hp), if_neg (isB_f k4 hp)]
              · exact vd_end (by omega) rfl
            · exact gs_headed (c := 69) (cs := [79, 70]) (qs := [.eF]) (q := .eO) k4 rfl rfl (fun i hi => by
                match i, hi with
                | 0, _ => exact ⟨rfl, rfl, fun d hd => if_neg hd⟩
                | 1, _ => exact ⟨rfl, rfl, fun d hd => if_neg hd⟩)
          · rw [if_pos rfl]
            exact gs_told (K := 3) l1.2 (.inr (.inr rfl)) (gs_headed (c := 72) (cs := [69, 76, 80, 32]) (qs := [.hL, .hP, .hS]) (q := .hE) k3 rfl rfl (fun i hi => by
              match i, hi with
              | 0, _ => exact ⟨rfl, rfl, fun d hd => if_neg hd⟩
              | 1, _ => exact ⟨rfl, rfl, fun d hd => if_neg hd⟩
              | 2, _ => exact ⟨rfl, rfl, fun d hd => if_neg hd⟩
              | 3, _ => exact ⟨rfl, rfl, fun d hd => if_neg hd⟩))
        · rw [if_pos rfl]
          exact gs_told (K := 2) l1.2 (.inr (.inl rfl)) (gs_headed (c := 85) (cs := [78, 73, 84, 32]) (qs := [.uI, .uT, .uS]) (q := .uN) k2 rfl rfl (fun i hi => by
            match i, hi with
            | 0, _ => exact ⟨rfl, rfl, fun d hd => if_neg hd⟩
            | 1, _ => exact ⟨rfl, rfl, fun d hd => if_neg hd⟩
            | 2, _ => exact ⟨rfl, rfl, fun d hd => if_neg hd⟩
            | 3, _ => exact ⟨rfl, rfl, fun d hd => if_neg hd⟩))
      · rw [if_pos rfl]
        exact gs_told (K := 1) l1.2 (.inl rfl) (gs_headed (c := 84) (cs := [89, 80, 69, 32]) (qs := [.tP, .tE, .tS]) (q := .tY) k1 rfl rfl (fun i hi => by
          match i, hi with
          | 0, _ => exact ⟨rfl, rfl, fun d hd => if_neg hd⟩
          | 1, _ => exact ⟨rfl, rfl, fun d hd => if_neg hd⟩
          | 2, _ => exact ⟨rfl, rfl, fun d hd => if_neg hd⟩
          | 3, _ => exact ⟨rfl, rfl, fun d hd => if_neg hd⟩))
    · simp only [isB_no, Bool.false_eq_true, if_false]
      rw [word_no]
      unfold Gs at h1 ⊢
      rw [if_pos rfl] at h1 ⊢
      exact h1
/-- What stands behind the last line. -/
theorem v_end {p : Nat} (hp : p ≤ l.length) : W l .e1 p = if (oendS l p false).2 = true then ((oendS l p false).1 : Int) else -1 := by
  by_cases h : p = l.length
  · have he : (p == l.length) = true := by rw [beq_iff_eq]; exact h
    rw [oend_at l p he, if_neg (by simp)]
    exact vd_acc (by omega) rfl
  · have he : (p == l.length) = false := by rw [beq_eq_false_iff_ne]; exact h
    have hlt : p < l.length := by omega
    cases k : isB l p false ((10 : UInt8).toNat : Int)
    · have hn := isB_f k hlt
      have hw : wordS l [10] p false = (p, true) := by rw [word1, k]; rfl
      rw [oend_word l p he hw, he, if_pos (by simp)]
      exact vd_no hlt (if_neg hn)
    · have hk := isB_iff.1 k
      have hw : wordS l [10] p false = (p + 1, false) := by rw [word1, k]; rfl
      rw [oend_word l p he hw]
      have h2 : W l .e1 p = W l .e2 (p + 1) := vd_yes hlt (by rw [hk.2]; rfl)
      rw [h2]
      by_cases h3 : p + 1 = l.length
      · have he2 : (p + 1 == l.length) = true := by rw [beq_iff_eq]; exact h3
        rw [he2]
        simp only [if_true, Bool.false_eq_true, if_false]
        exact vd_acc (by omega) rfl
      · have he2 : (p + 1 == l.length) = false := by rw [beq_eq_false_iff_ne]; exact h3
        rw [he2]
        simp only [if_true, Bool.false_eq_true, if_false]
        exact vd_no (by omega) rfl
theorem v_orows : ∀ f a acc, l.length < f + a → a ≤ l.length → W l .line a = if (oendS l (orowsGo l f a acc).2.1 (orowsGo l f a acc).2.2).2 = true then ((oendS l (orowsGo l f a acc).2.1 (orowsGo l f a acc).2.2).1 : Int) else -1
  | 0, a, acc, hf, hl => by omega
  | f + 1, a, acc, hf, hl => by
    have hv := gs_line (l := l) hl
    have hle := olineS_le (l := l) hl
    have hlt := oline_lt (l := l) hl
    unfold Gs at hv
    cases h1 : (olineS l a).1.2
    · rw [h1] at hv hlt
      cases h2 : (olineS l a).2.2
      · rw [h2] at hv hlt
        have e : orowsGo l (f + 1) a acc = orowsGo l f (olineS l a).2.1 (acc ++ (olineS l a).1.1.toList) := by
          conv => lhs; unfold orowsGo
          rw [h1, h2, if_neg (by simp), if_neg (by simp)]
        rw [e]
        simp only [Bool.false_eq_true, if_false] at hv
        rw [hv]
        exact v_orows f _ _ (by have := hlt rfl rfl; omega) hle.2
      · rw [h2, if_pos rfl] at hv
        have e : (orowsGo l (f + 1) a acc).2 = ((olineS l a).2.1, true) := by
          unfold orowsGo
          rw [h1, h2, if_neg (by simp), if_pos rfl]
        rw [e]
        simp only [oend_no, if_true]
        exact hv
    · rw [h1] at hv
      have e : (orowsGo l (f + 1) a acc).2 = (olineS l a).2 := by
        unfold orowsGo
        rw [h1, if_pos rfl]
      rw [e]
      cases h2 : (olineS l a).2.2
      · rw [h2] at hv
        simp only [Bool.false_eq_true, if_false, if_true] at hv
        rw [hv]
        exact v_end hle.2
      · rw [h2, if_pos rfl] at hv
        simp only [oend_no, if_true]
        exact hv
theorem openBad_eq (l : List UInt8) : openBad l = vdGo stO acO .line l 0 := by
  unfold openBad openRows
  simp only
  rw [← v_orows (l.length + 2) 0 [] (by omega) (by omega)]
  rfl
theorem openBad_bd (l : List UInt8) : -1 ≤ openBad l ∧ openBad l ≤ l.length := by
  rw [openBad_eq]
  have := vdGo_bd (st := stO) (ac := acO) l OQ.line 0
  omega
theorem openBad_far {l : List UInt8} {k : Nat} (h : openBad l = (k : Int)) (hk : k < l.length) (e : List UInt8) : openBad (l.take (k + 1) ++ e) = k := by
  rw [openBad_eq] at h ⊢
  exact vdGo_far l OQ.line 0 k h (by omega) e
theorem openBad_pre {l : List UInt8} {k : Nat} (h : openBad l = (k : Int)) : openBad (l.take k) = k ∨ openBad (l.take k) = -1 := by
  rw [openBad_eq] at h ⊢
  exact vdGo_pre l OQ.line k h
end
end Go.Proofs.YtdngieihlcknmaaDoor
