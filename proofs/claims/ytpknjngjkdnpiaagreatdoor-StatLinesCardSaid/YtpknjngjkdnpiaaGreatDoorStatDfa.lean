/- The counting format's machine of states: what the rows' functions answer is its verdict; ends that close each state (no program in sight). -/
import Derived.Test.YtpknjngjkdnpiaaGreatDoorMgB
import Derived.Test.YtpknjngjkdnpiaaGreatDoorDfaG
namespace Go.Proofs.YtpknjngjkdnpiaaGreatDoor
set_option linter.unusedVariables false
set_option linter.unusedSimpArgs false
open Go.RowKit
inductive SQ where
  | line | nm | v0 | v | k0 | km | ke | b1 | d0 | dN | di | dp | df | b2 | g0 | g | x0 | x
def sAft (c : Int) : Option SQ := if c = 124 then some .b2 else if c = 10 then some .line else none
def stS : SQ → Int → Option SQ
  | .line, c => if stName c then some .nm else none
  | .nm, c => if stName c then some .nm else if c = 58 then some .v0 else none
  | .v0, c => if stInk c then some .v else none
  | .v, c => if stInk c then some .v else if c = 124 then some .k0 else none
  | .k0, c => if c = 99 then some .ke else if c = 103 then some .ke else if c = 115 then some .ke else if c = 109 then some .km else none
  | .km, c => if c = 115 then some .ke else none
  | .ke, c => if c = 124 then some .b1 else if c = 10 then some .line else none
  | .b1, c => if c = 64 then some .d0 else if c = 35 then some .g0 else none
  | .d0, c => if c = 45 then some .dN else if digB c then some .di else none
  | .dN, c => if digB c then some .di else none
  | .di, c => if digB c then some .di else if c = 46 then some .dp else sAft c
  | .dp, c => if digB c then some .df else none
  | .df, c => if digB c then some .df else sAft c
  | .b2, c => if c = 35 then some .g0 else none
  | .g0, c => if stName c then some .g else none
  | .g, c => if stName c then some .g else if c = 58 then some .x0 else none
  | .x0, c => if stValue c then some .x else none
  | .x, c => if stValue c then some .x else if c = 44 then some .g0 else if c = 10 then some .line else none
def acS : SQ → Bool
  | .line => true
  | _ => false
section
variable {l : List UInt8}
abbrev VS (l : List UInt8) (q : SQ) (a : Nat) : Int := vd stS acS l q a
abbrev F1 (l : List UInt8) (c : Int) (q : SQ) : Nat → Int := gf1 stS acS l c q
abbrev F2 (l : List UInt8) (c : Int) (q : SQ) (d : Int) (q' : SQ) : Nat → Int := gf2 stS acS l c q d q'
/-- A tag. -/
theorem gs_stag {a : Nat} : GG (VS l .g0 a) (sTagS l a false).2 (F2 l 44 .g0 10 .line) := by
  have h1 : GG (VS l .g0 a) (someS l stName a false) (F1 l 58 .x0) := gg_some1 (q := .g) rfl rfl (fun _ => rfl) (fun d => rfl)
  have h2 := GG.bind (F := fun p no => wordS l [58] p no) h1 (word_no _ _ _) (fun _ => gg_word1 58 SQ.x0 _)
  exact GG.bind (F := fun p no => someS l stValue p no) h2 (some_noG _ _) (fun _ => gg_some2 (q := SQ.x) rfl rfl (fun _ => rfl) (fun d => rfl))
theorem sTagS_no (a : Nat) : (sTagS l a true).2 = (a, true) := by
  unfold sTagS
  simp only [some_noG, word_no]
theorem sTagsGo_no (a : Nat) (acc : List MTag) : ∀ f, (sTagsGo l f a true acc).2 = (a, true)
  | 0 => rfl
  | f + 1 => by
    unfold sTagsGo
    rw [sTagS_no]
    simp [isB_no]
theorem gs_stags : ∀ f a acc, l.length < f + a → a ≤ l.length → GG (VS l .g0 a) (sTagsGo l f a false acc).2 (F1 l 10 .line)
  | 0, a, acc, hf, ha => by omega
  | f + 1, a, acc, hf, ha => by
    have ht := gs_stag (l := l) (a := a)
    have hle := sTagS_le (l := l) false ha
    unfold sTagsGo
    cases k : isB l (sTagS l a false).2.1 (sTagS l a false).2.2 44
    · rw [if_neg (by simp)]
      refine GG.then_ ht (fun hr => ?_)
      rw [hr] at k
      unfold F2 gf2
      rw [k, if_neg (by simp)]
    · rw [if_pos rfl]
      have hlt := isB_lt k
      unfold GG at ht
      rw [hlt.2.1, if_neg (by simp)] at ht
      unfold F2 gf2 at ht
      rw [hlt.2.1] at k
      rw [k, if_pos rfl] at ht
      rw [ht]
      exact gs_stags f _ _ (by omega) (by omega)
theorem gs_more {q : SQ} {a : Nat} (ha : a ≤ l.length) (hq : VS l q a = F1 l 35 .g0 a) : GG (VS l q a) (sMoreS l a).2 (F1 l 10 .line) := by
  have h1 : GG (VS l q a) (wordS l [35] a false) (VS l .g0) := by
    rw [hq]; exact gg_word1 35 SQ.g0 a
  have hle := wordS_le l [35] a false ha
  unfold sMoreS
  exact GG.bind (F := fun p no => (sTagsGo l (l.length + 1) p no []).2) h1 (sTagsGo_no _ _ _) (fun _ => gs_stags (l.length + 1) _ [] (by omega) hle.2)
/-- What is counted. -/
theorem gs_kind {a : Nat} : GG (VS l .k0 a) (kindS l a false).2 (F2 l 124 .b1 10 .line) := by
  have hke : ∀ p, VS l .ke p = F2 l 124 .b1 10 .line p := fun p => gf2_of rfl (fun _ => rfl)
  unfold kindS
  cases k1 : isB l a false 99
  · rw [if_neg (by simp)]
    cases k2 : isB l a false 103
    · rw [if_neg (by simp)]
      cases k3 : isB l a false 115
      · rw [if_neg (by simp)]
        have h1 : VS l .k0 a = gf1 stS acS l 109 .km a := gf1_of rfl (fun hp => by
          show (if bt l a = 99 then _ else if bt l a = 103 then _ else if bt l a = 115 then _ else _) = _
          rw [if_neg (isB_f k1 hp), if_neg (isB_f k2 hp), if_neg (isB_f k3 hp)])
        have h2 : GG (VS l .k0 a) (wordS l wMs a false) (VS l .ke) := by
          rw [h1]
          unfold gf1 wMs
          cases k4 : isB l a false 109
          · have : wordS l [109, 115] a false = (a, true) := by
              unfold wordS; rw [if_neg (by simp)]
              have k5 : isB l a false ((109 : UInt8).toNat : Int) = false := k4
              rw [k5]; simp
            rw [this]; rfl
          · have e : wordS l [109, 115] a false = wordS l [115] (a + 1) false := word_head (c := 109) k4
            rw [e, if_pos rfl]
            have h3 := gf1_of (st := stS) (ac := acS) (l := l) (q := .km) (q' := .ke) (c := 115) (p := a + 1) rfl (fun _ => rfl)
            rw [h3]
            exact gg_word1 115 SQ.ke (a + 1)
        exact GG.then_ h2 (fun _ => hke _)
      · have hk := isB_iff.1 k3
        rw [if_pos rfl]
        unfold GG
        rw [if_neg (by simp), ← hke]
        exact vd_yes hk.1 (by rw [hk.2]; rfl)
    · have hk := isB_iff.1 k2
      rw [if_pos rfl]
      unfold GG
      rw [if_neg (by simp), ← hke]
      exact vd_yes hk.1 (by rw [hk.2]; rfl)
  · have hk := isB_iff.1 k1
    rw [if_pos rfl]
    unfold GG
    rw [if_neg (by simp), ← hke]
    exact vd_yes hk.1 (by rw [hk.2]; rfl)
theorem kindS_no (a : Nat) : (kindS l a true).2 = (a, true) := by
  unfold kindS
  simp only [isB_no, Bool.false_eq_true, if_false, word_no]
theorem gs_sdec {a : Nat} : GG (VS l .d0 a) (decS l a false) (F2 l 124 .b2 10 .line) := by
  refine gg_dec (dN := .dN) (di := .di) (dp := .dp) (df := .df) rfl rfl (fun c => rfl) (fun c => rfl) (fun c h => ?_) rfl rfl (fun c => rfl) (fun c h => ?_) (fun p hp => ?_) (fun p hp => ?_)
  · show (if digB c = true then _ else _) = _
    rw [if_pos h]
  · show (if digB c = true then _ else _) = _
    rw [if_pos h]
  · refine gf2_of rfl (fun hl => ?_)
    show (if digB _ = true then _ else if _ = 46 then _ else sAft _) = _
    rw [if_neg (by rw [(hp hl).1]; simp), if_neg (hp hl).2]; rfl
  · refine gf2_of rfl (fun hl => ?_)
    show (if digB _ = true then _ else sAft _) = _
    rw [if_neg (by rw [hp hl]; simp)]; rfl
/-- A line. -/
theorem gs_sline {a : Nat} (ha : a < l.length) : GG (VS l .line a) (statLineS l a).2 (VS l .line) := by
  have h1 : GG (VS l .line a) (someS l stName a false) (F1 l 58 .v0) := by
    have : VS l .line a = VS l .g0 a ∨ True := .inr trivial
    refine GG.then_ (y := VS l .nm) ?_ (fun _ => gf1_of rfl (fun hp => ?_))
    · unfold GG someS
      simp only [Bool.false_eq_true, if_false]
      cases hp : stName (bt l a)
      · rw [whA_no ha hp]
        simp only [beq_self_eq_true, if_true]
        exact vd_no ha (by show (if stName _ = true then _ else _) = _; rw [hp]; rfl)
      · have hle := (whA_le l stName (a + 1) (by omega)).1
        rw [whA_yes ha hp]
        have e : (whA l stName (a + 1) == a) = false := by rw [beq_eq_false_iff_ne]; omega
        rw [e]
        simp only [Bool.false_eq_true, if_false]
        have h2 : VS l .line a = VS l .nm (a + 1) := vd_yes ha (by show (if stName _ = true then _ else _) = _; rw [hp]; rfl)
        rw [h2]
        exact vd_while (fun c hc => by show (if stName c = true then _ else _) = _; rw [if_pos hc]) (a + 1)
    · show (if stName _ = true then _ else _) = _
      rw [if_neg (by rw [someS_stop hp]; simp)]
  have l1 := someS_le l stName a false (by omega)
  unfold statLineS
  simp only
  generalize someS l stName a false = n at h1 l1 ⊢
  have h2 := GG.bind (F := fun p no => wordS l [58] p no) h1 (word_no _ _ _) (fun _ => gg_word1 58 SQ.v0 _)
  have l2 := wordS_le l [58] n.1 n.2 l1.2
  try simp only at h2
  generalize wordS l [58] n.1 n.2 = w at h2 l2 ⊢
  have h3 := GG.bind (F := fun p no => someS l stInk p no) h2 (some_noG _ _) (fun _ => gg_some1 (q := SQ.v) (q' := SQ.k0) (c := 124) rfl rfl (fun _ => rfl) (fun d => rfl))
  have l3 := someS_le l stInk w.1 w.2 l2.2
  try simp only at h3
  generalize someS l stInk w.1 w.2 = t at h3 l3 ⊢
  have h4 := GG.bind (F := fun p no => wordS l [124] p no) h3 (word_no _ _ _) (fun _ => gg_word1 124 SQ.k0 _)
  have l4 := wordS_le l [124] t.1 t.2 l3.2
  try simp only at h4
  generalize wordS l [124] t.1 t.2 = b at h4 l4 ⊢
  have h5 := GG.bind (F := fun p no => (kindS l p no).2) h4 (kindS_no _) (fun _ => gs_kind)
  have l5 := kindS_le (l := l) b.2 l4.2
  try simp only at h5
  generalize kindS l b.1 b.2 = k at h5 l5 ⊢
  cases q1 : isB l k.2.1 k.2.2 124
  · rw [if_neg (by simp)]
    refine GG.bind (F := fun p no => wordS l [10] p no) (GG.then_ h5 (fun hr => ?_)) (word_no _ _ _) (fun _ => gg_word1 10 SQ.line _)
    rw [hr] at q1
    unfold F2 gf2
    rw [q1, if_neg (by simp)]; rfl
  · rw [if_pos rfl]
    have hq := isB_lt q1
    have e5 : VS l .line a = VS l .b1 (k.2.1 + 1) := by
      unfold GG at h5
      rw [hq.2.1, if_neg (by simp)] at h5
      unfold F2 gf2 at h5
      rw [hq.2.1] at q1
      rw [q1, if_pos rfl] at h5
      exact h5
    cases q2 : isB l (k.2.1 + 1) false 64
    · rw [if_neg (by simp)]
      simp only
      rw [e5]
      have hm := gs_more (l := l) (q := .b1) (a := k.2.1 + 1) (by omega) (gf1_of rfl (fun hp => by
        show (if bt l _ = 64 then _ else _) = _
        rw [if_neg (isB_f q2 hp)]))
      exact GG.bind (F := fun p no => wordS l [10] p no) hm (word_no _ _ _) (fun _ => gg_word1 10 SQ.line _)
    · rw [if_pos rfl]
      have hq2 := isB_iff.1 q2
      have e6 : VS l .b1 (k.2.1 + 1) = VS l .d0 (k.2.1 + 2) := vd_yes hq2.1 (by rw [hq2.2]; rfl)
      rw [e5, e6]
      have hd := gs_sdec (l := l) (a := k.2.1 + 2)
      have l6 := decS_le l (k.2.1 + 2) false (by omega)
      generalize decS l (k.2.1 + 2) false = d at hd l6 ⊢
      cases q3 : isB l d.1 d.2 124
      · rw [if_neg (by simp)]
        refine GG.bind (F := fun p no => wordS l [10] p no) (GG.then_ hd (fun hr => ?_)) (word_no _ _ _) (fun _ => gg_word1 10 SQ.line _)
        rw [hr] at q3
        unfold F2 gf2
        rw [q3, if_neg (by simp)]; rfl
      · rw [if_pos rfl]
        have hq3 := isB_lt q3
        have e7 : VS l .d0 (k.2.1 + 2) = VS l .b2 (d.1 + 1) := by
          unfold GG at hd
          rw [hq3.2.1, if_neg (by simp)] at hd
          unfold F2 gf2 at hd
          rw [hq3.2.1] at q3
          rw [q3, if_pos rfl] at hd
          exact hd
        simp only
        rw [e7]
        have hm := gs_more (l := l) (q := .b2) (a := d.1 + 1) (by omega) (gf1_of rfl (fun hp => rfl))
        exact GG.bind (F := fun p no => wordS l [10] p no) hm (word_no _ _ _) (fun _ => gg_word1 10 SQ.line _)
theorem word1_lt {c : UInt8} {a : Nat} {no : Bool} (h : (wordS l [c] a no).2 = false) : (wordS l [c] a no).1 = a + 1 := by
  cases no
  · rw [word1] at h ⊢
    split at h
    · rename_i hi; rw [if_pos hi]
    · cases h
  · rw [word_no] at h; cases h
theorem statLine_lt {a : Nat} (ha : a < l.length) (h : (statLineS l a).2.2 = false) : a < (statLineS l a).2.1 := by
  have h0 := statLineS_le (l := l) (a := a) (by omega)
  unfold statLineS at h h0 ⊢
  simp only at h h0 ⊢
  have h1 := someS_le l stName a false (by omega)
  generalize someS l stName a false = n at h h0 h1 ⊢
  have h2 := wordS_le l [58] n.1 n.2 h1.2
  generalize wordS l [58] n.1 n.2 = w at h h0 h2 ⊢
  have h3 := someS_le l stInk w.1 w.2 h2.2
  generalize someS l stInk w.1 w.2 = t at h h0 h3 ⊢
  have h4 := wordS_le l [124] t.1 t.2 h3.2
  generalize wordS l [124] t.1 t.2 = b at h h0 h4 ⊢
  have h5 := kindS_le (l := l) b.2 h4.2
  generalize kindS l b.1 b.2 = k at h h0 h5 ⊢
  split at h
  · rename_i q1
    rw [if_pos q1]
    have hk := (isB_lt q1).1
    split at h
    · rename_i q2
      rw [if_pos q2]
      have hj := (isB_lt q2).1
      have h6 := decS_le l (k.2.1 + 2) false (by omega)
      generalize decS l (k.2.1 + 2) false = d at h h6 ⊢
      split at h
      · rename_i q3
        rw [if_pos q3]
        have hd := (isB_lt q3).1
        have h7 := sMoreS_le (l := l) (a := d.1 + 1) (by omega)
        simp only at h ⊢
        rw [word1_lt h]; omega
      · rename_i q3
        rw [if_neg q3]
        simp only at h ⊢
        rw [word1_lt h]; omega
    · rename_i q2
      rw [if_neg q2]
      have h7 := sMoreS_le (l := l) (a := k.2.1 + 1) (by omega)
      simp only at h ⊢
      rw [word1_lt h]; omega
  · rename_i q1
    rw [if_neg q1]
    simp only at h ⊢
    rw [word1_lt h]; omega
theorem vs_rows : ∀ f a acc, l.length < f + a → a ≤ l.length → VS l .line a = if (rowsGo statLineS l f a acc).2.2 = true then ((rowsGo statLineS l f a acc).2.1 : Int) else -1
  | 0, a, acc, hf, hl => by omega
  | f + 1, a, acc, hf, hl => by
    unfold rowsGo
    by_cases h1 : l.length ≤ a
    · rw [if_pos h1]
      simp only [Bool.false_eq_true, if_false]
      exact vd_acc h1 rfl
    · rw [if_neg h1]
      have hv := gs_sline (l := l) (a := a) (by omega)
      have hle := statLineS_le (l := l) (a := a) hl
      have hlt := statLine_lt (l := l) (a := a) (by omega)
      unfold GG at hv
      cases hn : (statLineS l a).2.2
      · rw [hn, if_neg (by simp)] at hv
        simp only [Bool.false_eq_true, if_false]
        rw [hv]
        have := hlt hn
        exact vs_rows f _ _ (by omega) hle.2
      · rw [hn, if_pos rfl] at hv
        simp only [if_true]
        exact hv
theorem statBad_eq (l : List UInt8) : statBad l = vdGo stS acS .line l 0 := by
  unfold statBad statRows
  rw [← vs_rows (l.length + 1) 0 [] (by omega) (by omega)]
  rfl
theorem statBad_bd (l : List UInt8) : -1 ≤ statBad l ∧ statBad l ≤ l.length := by
  rw [statBad_eq]
  have := vdGo_bd (st := stS) (ac := acS) l SQ.line 0
  omega
theorem statBad_far {l : List UInt8} {k : Nat} (h : statBad l = (k : Int)) (hk : k < l.length) (e : List UInt8) : statBad (l.take (k + 1) ++ e) = k := by
  rw [statBad_eq] at h ⊢
  exact vdGo_far l SQ.line 0 k h (by omega) e
theorem statBad_pre {l : List UInt8} {k : Nat} (h : statBad l = (k : Int)) : statBad (l.take k) = k ∨ statBad (l.take k) = -1 := by
  rw [statBad_eq] at h ⊢
  exact vdGo_pre l SQ.line k h
theorem statBad_twice {l : List UInt8} (h : statBad l = -1) : statBad (l ++ l) = -1 := by
  rw [statBad_eq] at h ⊢
  obtain ⟨q, hq, ht⟩ := vdGo_app l SQ.line h
  have : q = SQ.line := by cases q <;> simp [acS] at hq ⊢
  subst this
  rw [ht l]
  exact vdGo_neg l _ _ _ h
/-- The ends that are looked for. -/
def endsS : List (List UInt8) := [[97, 58, 97, 124, 99, 124, 64, 49, 46, 49, 124, 35, 97, 58, 97, 44, 97, 58, 97, 10], [109, 115, 10]]
def closeS : SQ → Nat × Nat
  | .line => (0, 0) | .nm => (0, 1) | .v0 => (0, 2) | .v => (0, 3) | .k0 => (0, 4) | .km => (1, 1) | .ke => (0, 19) | .b1 => (0, 6) | .d0 => (0, 7) | .dN => (0, 7) | .di => (0, 8) | .dp => (0, 9) | .df => (0, 10) | .b2 => (0, 11) | .g0 => (0, 12) | .g => (0, 13) | .x0 => (0, 14) | .x => (0, 15)
theorem closeS_ok (q : SQ) : (closeS q).1 < 2 ∧ (closeS q).2 ≤ (endsS.getD (closeS q).1 []).length ∧ vdGo stS acS q ((endsS.getD (closeS q).1 []).drop (closeS q).2) 0 = -1 := by
  cases q
  all_goals exact ⟨by decide, by decide, by decide +kernel⟩
theorem stat_closes {l : List UInt8} {k : Nat} (hk : k ≤ l.length) (h : statBad l = -1 ∨ (k : Int) ≤ statBad l) : ∃ r i j, r < 9 ∧ i < 2 ∧ j ≤ (endsS.getD i []).length ∧ statBad (l.take k ++ (restU.getD r [] ++ (endsS.getD i []).drop j)) = -1 := by
  rw [statBad_eq] at h
  obtain ⟨q, hq, _⟩ := vdGo_reach (st := stS) (ac := acS) k l SQ.line 0 hk (by simpa using h)
  obtain ⟨h1, h2, h3⟩ := closeS_ok q
  refine ⟨0, _, _, by decide, h1, h2, ?_⟩
  rw [statBad_eq, hq]
  exact vdGo_neg _ _ _ _ h3
end
end Go.Proofs.YtpknjngjkdnpiaaGreatDoor
