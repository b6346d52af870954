/- The open format's machine of states: what the rows' functions answer is its verdict (no program in sight). The open format's machine of states: a line, a text; ends that close each state (no program in sight). The open format: ends that close each state (no program in sight). The walk of OpenFar. The walk of polyglothelp.Close for the open format. The walk of OpenCloses. -/
import Derived.Test.YtdngieihlcknmaaDoorDropQ
import Derived.Test.YtdngieihlcknmaaDoorOpenF
import Derived.Test.YtdngieihlcknmaaDoorO17a
import Derived.Test.YtdngieihlcknmaaDoorOpenStr
import Derived.Test.YtdngieihlcknmaaDoorMgRef
namespace Go.Proofs.YtdngieihlcknmaaDoor
set_option linter.unusedVariables false
set_option linter.unusedSimpArgs false
open Go.RowKit
inductive TK where
  | t | u | h
inductive OQ where
  | line | h1 | h2 | tY | tP | tE | tS | uN | uI | uT | uS | hE | hL | hP | hS | eO | eF | e1 | e2
  | n0 (k : TK) | n (k : TK) | x0t | xt | x0u | xu | hh | hhE | hhU (u : UQ)
  | sn | g0 | g1 | g | gq | v | vE | vU (u : UQ) | vz | sp
  | d0 (m : Bool) | dN (m : Bool) | di (m : Bool) | dp (m : Bool) | df (m : Bool)
def aftD (m : Bool) (c : Int) : Option OQ := if m = false ∧ c = 32 then some (.d0 true) else if c = 10 then some .line else none
def fstB (p : Int → Bool) (c : Int) : Bool := p c && !digB c
def toldQ : TK → OQ
  | .t => .x0t | .u => .x0u | .h => .hh
def stO : OQ → Int → Option OQ
  | .line, c => if c = 35 then some .h1 else if fstB owName c then some .sn else none
  | .h1, c => if c = 32 then some .h2 else none
  | .h2, c => if c = 84 then some .tY else if c = 85 then some .uN else if c = 72 then some .hE else if c = 69 then some .eO else none
  | .tY, c => if c = 89 then some .tP else none
  | .tP, c => if c = 80 then some .tE else none
  | .tE, c => if c = 69 then some .tS else none
  | .tS, c => if c = 32 then some (.n0 .t) else none
  | .uN, c => if c = 78 then some .uI else none
  | .uI, c => if c = 73 then some .uT else none
  | .uT, c => if c = 84 then some .uS else none
  | .uS, c => if c = 32 then some (.n0 .u) else none
  | .hE, c => if c = 69 then some .hL else none
  | .hL, c => if c = 76 then some .hP else none
  | .hP, c => if c = 80 then some .hS else none
  | .hS, c => if c = 32 then some (.n0 .h) else none
  | .eO, c => if c = 79 then some .eF else none
  | .eF, c => if c = 70 then some .e1 else none
  | .e1, c => if c = 10 then some .e2 else none
  | .e2, _ => none
  | .n0 k, c => if fstB owName c then some (.n k) else none
  | .n k, c => if owName c then some (.n k) else if c = 32 then some (toldQ k) else none
  | .x0t, c => if smB c then some .xt else none
  | .xt, c => if smB c then some .xt else if c = 10 then some .line else none
  | .x0u, c => if owName c then some .xu else none
  | .xu, c => if owName c then some .xu else if c = 10 then some .line else none
  | .hh, c => if c = 10 then some .line else if c = 92 then some .hhE else if c < 128 then some .hh else (uFirst c).map .hhU
  | .hhE, c => if (inH.any fun d => c == d.toNat) = true then some .hh else none
  | .hhU u, c => (uNext u c).map fun o => match o with
    | none => .hh
    | some u' => .hhU u'
  | .sn, c => if owName c then some .sn else if c = 123 then some .g0 else if c = 32 then some (.d0 false) else none
  | .g0, c => if c = 125 then some .sp else if fstB owLabel c then some .g else none
  | .g1, c => if fstB owLabel c then some .g else none
  | .g, c => if owLabel c then some .g else if c = 61 then some .gq else none
  | .gq, c => if c = 34 then some .v else none
  | .v, c => if c = 34 then some .vz else if c = 10 then none else if c = 92 then some .vE else if c < 128 then some .v else (uFirst c).map .vU
  | .vE, c => if (inV.any fun d => c == d.toNat) = true then some .v else none
  | .vU u, c => (uNext u c).map fun o => match o with
    | none => .v
    | some u' => .vU u'
  | .vz, c => if c = 44 then some .g1 else if c = 125 then some .sp else none
  | .sp, c => if c = 32 then some (.d0 false) else none
  | .d0 m, c => if c = 45 then some (.dN m) else if digB c then some (.di m) else none
  | .dN m, c => if digB c then some (.di m) else none
  | .di m, c => if digB c then some (.di m) else if c = 46 then some (.dp m) else aftD m c
  | .dp m, c => if digB c then some (.df m) else none
  | .df m, c => if digB c then some (.df m) else aftD m c
def acO : OQ → Bool
  | .e1 => true
  | .e2 => true
  | _ => false
section
variable {l : List UInt8}
abbrev W (l : List UInt8) (q : OQ) (a : Nat) : Int := vd stO acO l q a
/-- A verdict behind a stage. -/
def Gs (x : Int) (r : Nat × Bool) (y : Nat → Int) : Prop := x = if r.2 = true then (r.1 : Int) else y r.1
theorem Gs.bind {x : Int} {r : Nat × Bool} {y z : Nat → Int} {F : Nat → Bool → Nat × Bool} (h : Gs x r y) (h0 : F r.1 true = (r.1, true)) (h1 : r.2 = false → Gs (y r.1) (F r.1 false) z) : Gs x (F r.1 r.2) z := by
  unfold Gs at h ⊢
  cases hr : r.2
  · rw [hr, if_neg (by simp)] at h
    rw [h]
    exact h1 hr
  · rw [hr, if_pos rfl] at h
    rw [h0, if_pos rfl]; exact h
/-- A fork of one byte, of two. -/
def fk1 (l : List UInt8) (c : Int) (q : OQ) (p : Nat) : Int := if isB l p false c = true then W l q (p + 1) else (p : Int)
def fk2 (l : List UInt8) (c : Int) (q : OQ) (d : Int) (q' : OQ) (p : Nat) : Int := if isB l p false c = true then W l q (p + 1) else fk1 l d q' p
theorem fk1_of {q q' : OQ} {c : Int} {p : Nat} (hac : acO q = false) (h : p < l.length → stO q (bt l p) = if bt l p = c then some q' else none) : W l q p = fk1 l c q' p := by
  unfold fk1
  by_cases hp : p < l.length
  · have h1 := h hp
    cases k : isB l p false c
    · rw [if_neg (isB_f k hp)] at h1
      rw [if_neg (by simp)]
      exact vd_no hp h1
    · rw [if_pos (isB_iff.1 k).2] at h1
      rw [if_pos rfl]
      exact vd_yes hp h1
  · rw [isB_end hp, if_neg (by simp)]
    exact vd_end (by omega) hac
theorem fk2_of {q q1 q2 : OQ} {c d : Int} {p : Nat} (hac : acO q = false) (h : p < l.length → stO q (bt l p) = if bt l p = c then some q1 else if bt l p = d then some q2 else none) : W l q p = fk2 l c q1 d q2 p := by
  unfold fk2 fk1
  by_cases hp : p < l.length
  · have h1 := h hp
    cases k : isB l p false c
    · rw [if_neg (isB_f k hp)] at h1
      rw [if_neg (by simp)]
      cases k2 : isB l p false d
      · rw [if_neg (isB_f k2 hp)] at h1
        rw [if_neg (by simp)]
        exact vd_no hp h1
      · rw [if_pos (isB_iff.1 k2).2] at h1
        rw [if_pos rfl]
        exact vd_yes hp h1
    · rw [if_pos (isB_iff.1 k).2] at h1
      rw [if_pos rfl]
      exact vd_yes hp h1
  · rw [isB_end hp, isB_end hp, if_neg (by simp), if_neg (by simp)]
    exact vd_end (by omega) hac
theorem gs_word1 (c : UInt8) (q : OQ) (p : Nat) : Gs (fk1 l c.toNat q p) (wordS l [c] p false) (W l q) := by
  unfold Gs fk1
  rw [word1]
  cases k : isB l p false c.toNat <;> simp
/-- A name. -/
theorem gs_nm {P : Int → Bool} {q0 q : OQ} {a : Nat} (hac : acO q0 = false) (h0 : a < l.length → stO q0 (bt l a) = if fstB P (bt l a) then some q else none) (h : ∀ c, P c = true → stO q c = some q) : Gs (W l q0 a) (nmS l P a false) (W l q) := by
  unfold Gs nmS
  by_cases ha : a < l.length
  · rw [pkB_bt ha, Bool.true_and, Bool.false_or]
    have h1 := h0 ha
    unfold fstB at h1
    cases hd : digB (bt l a)
    · rw [hd] at h1
      simp only [Bool.not_false, Bool.and_true] at h1
      exact vd_some hac (fun _ hp => by rw [h1, if_pos hp]) (fun _ hp => by rw [h1, if_neg (by rw [hp]; simp)]) h
    · rw [hd] at h1
      simp only [Bool.not_true, Bool.and_false, Bool.false_eq_true, if_false] at h1
      unfold someS
      rw [if_pos rfl, if_pos rfl]
      exact vd_no ha h1
  · rw [pkB_end (by omega)]
    exact vd_some hac (fun h => absurd h ha) (fun h => absurd h ha) h
theorem nm_stop {P : Int → Bool} {a : Nat} (h : (nmS l P a false).2 = false) (h2 : (nmS l P a false).1 < l.length) : P (bt l (nmS l P a false).1) = false := by
  unfold nmS at h h2 ⊢
  cases k : (false || (pkB l a false && digB (bt l a)))
  · rw [k] at h2; exact someS_stop h2
  · rw [k] at h; simp [someS] at h
theorem gs_then {x : Int} {r : Nat × Bool} {y z : Nat → Int} (h : Gs x r y) (h1 : r.2 = false → y r.1 = z r.1) : Gs x r z := by
  unfold Gs at h ⊢
  cases hr : r.2
  · rw [hr, if_neg (by simp)] at h; rw [if_neg (by simp), h, h1 hr]
  · rw [hr, if_pos rfl] at h; rw [if_pos rfl, h]
theorem gs_nm1 {P : Int → Bool} {q0 q q' : OQ} {c : Int} {a : Nat} (hac : acO q0 = false) (hac2 : acO q = false) (h0 : a < l.length → stO q0 (bt l a) = if fstB P (bt l a) then some q else none) (h : ∀ d, stO q d = if P d then some q else if d = c then some q' else none) : Gs (W l q0 a) (nmS l P a false) (fk1 l c q') :=
  gs_then (gs_nm hac h0 (fun d hd => by rw [h, if_pos hd])) (fun hr => fk1_of hac2 (fun hp => by rw [h, if_neg (by rw [nm_stop hr hp]; simp)]))
theorem gs_some1 {P : Int → Bool} {q0 q q' : OQ} {c : Int} {a : Nat} (hac : acO q0 = false) (hac2 : acO q = false) (h0 : ∀ d, stO q0 d = if P d then some q else none) (h : ∀ d, stO q d = if P d then some q else if d = c then some q' else none) : Gs (W l q0 a) (someS l P a false) (fk1 l c q') :=
  gs_then (y := W l q) (vd_some hac (fun _ hp => by rw [h0, if_pos hp]) (fun _ hp => by rw [h0, if_neg (by rw [hp]; simp)]) (fun d hd => by rw [h, if_pos hd])) (fun _ => fk1_of hac2 (fun hp => by rw [h, if_neg (by rw [someS_stop hp]; simp)]))
theorem u_hh : UStep stO acO .hh .hhU := ⟨fun _ _ => rfl, fun _ => rfl⟩
theorem u_v : UStep stO acO .v .vU := ⟨fun _ _ => rfl, fun _ => rfl⟩
theorem ink_stop {e : Int} {m : List UInt8} {n : Int} {a : Nat} (ha : a ≤ l.length) (h : (ink l e m n a false).2.2 = false) : (ink l e m n a false).2.1 < l.length ∧ bt l (ink l e m n a false).2.1 = e := inkS_stop (l.length + 1) a [] ha h
theorem gs_hh {a : Nat} (ha : a ≤ l.length) : Gs (W l .hh a) (ink l 10 inH 110 a false).2 (fk1 l 10 .line) := by
  have hi := vd_ink (l := l) (e := 10) (m := inH) (n := 110) u_hh rfl (show acO .hhE = false from rfl) (fun h => absurd rfl h) (fun _ => rfl) (fun _ => rfl) (fun c h0 h1 h2 h3 h4 => by
    show (if c = 10 then _ else if c = 92 then _ else if c < 128 then _ else _) = _
    rw [if_neg h2, if_neg h4, if_pos h1]) (fun c h0 h1 => by
    show (if c = 10 then _ else if c = 92 then _ else if c < 128 then _ else _) = _
    rw [if_neg h1, if_neg (by omega), if_neg (by omega)]) (l.length + 1) a [] (by omega) ha
  refine gs_then (y := W l .hh) hi (fun hr => ?_)
  obtain ⟨h1, h2⟩ := ink_stop ha hr
  refine fk1_of rfl (fun _ => ?_)
  rw [h2]; rfl
theorem gs_v {a : Nat} (ha : a ≤ l.length) : Gs (W l .v a) (ink l 34 inV 110 a false).2 (fk1 l 34 .vz) := by
  have hi := vd_ink (l := l) (e := 34) (m := inV) (n := 110) u_v rfl (show acO .vE = false from rfl) (fun _ => rfl) (fun _ => rfl) (fun _ => rfl) (fun c h0 h1 h2 h3 h4 => by
    show (if c = 34 then _ else if c = 10 then _ else if c = 92 then _ else if c < 128 then _ else _) = _
    rw [if_neg h2, if_neg h3, if_neg h4, if_pos h1]) (fun c h0 h1 => by
    show (if c = 34 then _ else if c = 10 then _ else if c = 92 then _ else if c < 128 then _ else _) = _
    rw [if_neg h1, if_neg (by omega), if_neg (by omega), if_neg (by omega)]) (l.length + 1) a [] (by omega) ha
  refine gs_then (y := W l .v) hi (fun hr => ?_)
  obtain ⟨h1, h2⟩ := ink_stop ha hr
  refine fk1_of rfl (fun _ => ?_)
  rw [h2]; rfl
theorem nm_no (P : Int → Bool) (a : Nat) : nmS l P a true = (a, true) := by simp [nmS, someS]
theorem ink_no (e : Int) (m : List UInt8) (n : Int) (a : Nat) : (ink l e m n a true).2 = (a, true) := by simp [ink]
theorem dec_no (a : Nat) : decS l a true = (a, true) := by simp [decS, numS]
/-- A number's text. -/
def aftV (l : List UInt8) (m : Bool) (p : Nat) : Int := if m = false ∧ isB l p false 32 = true then W l (.d0 true) (p + 1) else fk1 l 10 .line p
theorem aft_of {q : OQ} {m : Bool} {p : Nat} (hac : acO q = false) (h : p < l.length → stO q (bt l p) = aftD m (bt l p)) : W l q p = aftV l m p := by
  unfold aftV
  cases m
  · have := fk2_of (l := l) (q := q) (q1 := .d0 true) (q2 := .line) (c := 32) (d := 10) hac (fun hp => by rw [h hp]; unfold aftD; simp)
    rw [this]; unfold fk2; simp
  · rw [if_neg (by simp)]
    exact fk1_of hac (fun hp => by rw [h hp]; unfold aftD; simp)
theorem gs_num {m : Bool} {a : Nat} : Gs (W l (.d0 m) a) (numS l a false) (W l (.di m)) := by
  unfold numS takeA
  rw [if_neg (by simp)]
  cases k4 : isB l a false 45
  · rw [if_neg (by simp)]
    exact vd_some rfl (fun hl h => by
      have := digB_iff.1 h
      show (if bt l a = 45 then _ else if digB (bt l a) = true then _ else _) = _
      rw [if_neg (by omega), if_pos h]) (fun hl h => by
      show (if bt l a = 45 then _ else if digB (bt l a) = true then _ else _) = _
      rw [if_neg (isB_f k4 hl), if_neg (by rw [h]; simp)]) (fun c h => by show (if _ then _ else _) = _; rw [if_pos h])
  · have hk := isB_iff.1 k4
    rw [if_pos rfl]
    have hv5 : W l (.d0 m) a = W l (.dN m) (a + 1) := vd_yes hk.1 (by rw [hk.2]; rfl)
    unfold Gs
    rw [hv5]
    exact vd_some rfl (fun hl h => by show (if _ then _ else _) = _; rw [if_pos h]) (fun hl h => by show (if _ then _ else _) = _; rw [if_neg (by rw [h]; simp)]) (fun c h => by show (if _ then _ else _) = _; rw [if_pos h])
theorem num_stop {a : Nat} (h : (numS l a false).1 < l.length) : digB (bt l (numS l a false).1) = false := by
  unfold numS at h ⊢
  rw [if_neg (by simp)] at h ⊢
  exact someS_stop h
theorem gs_dec {m : Bool} {a : Nat} : Gs (W l (.d0 m) a) (decS l a false) (aftV l m) := by
  have h := gs_num (l := l) (m := m) (a := a)
  have hs := num_stop (l := l) (a := a)
  unfold decS
  generalize numS l a false = r at h hs ⊢
  obtain ⟨p, np⟩ := r
  unfold Gs at h
  simp only at h hs ⊢
  cases np
  · rw [if_neg (by simp)] at h ⊢
    cases k : isB l p false 46
    · rw [if_neg (by simp)]
      unfold Gs
      rw [if_neg (by simp), h]
      refine aft_of rfl (fun hp => ?_)
      show (if digB _ = true then _ else if _ = 46 then _ else _) = _
      rw [if_neg (by rw [hs hp]; simp), if_neg (isB_f k hp)]
    · have hk := isB_iff.1 k
      rw [if_pos rfl]
      have h5 : W l (.di m) p = W l (.dp m) (p + 1) := vd_yes hk.1 (by
        rw [hk.2]; rfl)
      rw [h, h5]
      refine gs_then (y := W l (.df m)) (vd_some rfl (fun hl h => by show (if _ then _ else _) = _; rw [if_pos h]) (fun hl h => by show (if _ then _ else _) = _; rw [if_neg (by rw [h]; simp)]) (fun c h => by show (if _ then _ else _) = _; rw [if_pos h])) (fun _ => ?_)
      refine aft_of rfl (fun hp => ?_)
      show (if digB _ = true then _ else _) = _
      rw [if_neg (by rw [someS_stop hp]; simp)]
  · rw [if_pos rfl] at h ⊢
    unfold Gs
    rw [if_pos rfl]; exact h
end
section
variable {l : List UInt8}
theorem gs_wordQ {w : List UInt8} {qs : List OQ} {q q' : OQ} {a : Nat} (h1 : qs.length + 1 = w.length) (h2 : ∀ i (hi : i < w.length), acO ((q :: qs).getD i q) = false ∧ stO ((q :: qs).getD i q) (w[i].toNat) = some ((qs ++ [q']).getD i q) ∧ ∀ d : Int, d ≠ w[i].toNat → stO ((q :: qs).getD i q) d = none) : Gs (W l q a) (wordS l w a false) (W l q') :=
  vd_word w qs q q' a h1 h2
theorem gs_eq {a : Nat} : Gs (fk1 l 61 .gq a) (wordS l wEq a false) (W l .v) := by
  unfold fk1
  cases k : isB l a false 61
  · have : wordS l wEq a false = (a, true) := by
      unfold wEq wordS; rw [if_neg (by simp)]
      have k2 : isB l a false ((61 : UInt8).toNat : Int) = false := k
      rw [k2]; simp
    rw [this]; rfl
  · have e : wordS l wEq a false = wordS l [34] (a + 1) false := word_head (c := 61) k
    rw [e, if_pos rfl]
    have h := fk1_of (l := l) (q := .gq) (q' := .v) (c := 34) (p := a + 1) rfl (fun _ => rfl)
    rw [h]
    exact gs_word1 34 .v (a + 1)
/-- A label. -/
theorem gs_tag {q0 : OQ} {a : Nat} (ha : a ≤ l.length) (hac : acO q0 = false) (h0 : a < l.length → stO q0 (bt l a) = if fstB owLabel (bt l a) then some .g else none) : Gs (W l q0 a) (otagS l a false).2 (fk2 l 44 .g1 125 .sp) := by
  have h1 := gs_nm1 (l := l) (P := owLabel) (q0 := q0) (q := .g) (q' := .gq) (c := 61) (a := a) hac rfl h0 (fun d => rfl)
  have l1 := nmS_le (l := l) owLabel false ha
  have h2 := Gs.bind (F := fun p no => wordS l wEq p no) h1 (word_no _ _ _) (fun _ => gs_eq)
  have l2 := wordS_le l wEq (nmS l owLabel a false).1 (nmS l owLabel a false).2 l1.2
  have h3 := Gs.bind (F := fun p no => (ink l 34 inV 110 p no).2) h2 (ink_no _ _ _ _) (fun _ => gs_v l2.2)
  have h4 := Gs.bind (F := fun p no => wordS l [34] p no) h3 (word_no _ _ _) (fun _ => gs_word1 34 .vz _)
  exact gs_then h4 (fun _ => fk2_of rfl (fun _ => rfl))
theorem gs_tagsGo : ∀ f a acc q0, l.length < f + a → a ≤ l.length → acO q0 = false → (a < l.length → stO q0 (bt l a) = if fstB owLabel (bt l a) then some .g else none) → Gs (W l q0 a) (otagsGo l f a false acc).2 (fk1 l 125 .sp)
  | 0, a, acc, q0, hf, ha, _, _ => by omega
  | f + 1, a, acc, q0, hf, ha, hac, h0 => by
    have ht := gs_tag ha hac h0
    have hle := otagS_le (l := l) false ha
    rw [otagsGo_step, if_neg (by simp)]
    cases k : isB l (otagS l a false).2.1 (otagS l a false).2.2 44
    · rw [if_neg (by simp)]
      refine gs_then ht (fun hr => ?_)
      rw [hr] at k
      unfold fk2
      rw [k, if_neg (by simp)]
    · rw [if_pos rfl]
      have hlt := isB_lt k
      unfold Gs at ht
      rw [hlt.2.1, if_neg (by simp)] at ht
      unfold fk2 at ht
      rw [hlt.2.1] at k
      rw [k, if_pos rfl] at ht
      rw [ht]
      exact gs_tagsGo f _ _ .g1 (by omega) (by omega) rfl (fun _ => rfl)
theorem gs_tags {p : Nat} (hp : p ≤ l.length) : Gs (fk2 l 123 .g0 32 (.d0 false) p) (otagsS l p false).2 (fk1 l 32 (.d0 false)) := by
  unfold otagsS fk2
  cases k : isB l p false 123
  · rw [if_neg (by simp), if_neg (by simp)]; rfl
  · have hlt := isB_lt k
    rw [if_pos rfl, if_pos rfl]
    cases k2 : isB l (p + 1) false 125
    · rw [if_neg (by simp)]
      have h1 := gs_tagsGo (l := l) (l.length + 1) (p + 1) [] .g0 (by omega) (by omega) rfl (fun hq => by
        show (if bt l (p + 1) = 125 then _ else _) = _
        rw [if_neg (isB_f k2 hq)])
      have h2 := Gs.bind (F := fun p no => wordS l [125] p no) h1 (word_no _ _ _) (fun _ => gs_word1 125 .sp _)
      exact gs_then h2 (fun _ => fk1_of rfl (fun _ => rfl))
    · have hk := isB_iff.1 k2
      rw [if_pos rfl]
      unfold Gs
      rw [if_neg (by simp)]
      have : W l .g0 (p + 1) = W l .sp (p + 1 + 1) := vd_yes hk.1 (by rw [hk.2]; rfl)
      rw [this]
      exact fk1_of rfl (fun _ => rfl)
/-- A sample. -/
theorem gs_samp {a : Nat} (ha : a ≤ l.length) (h35 : isB l a false 35 = false) : Gs (W l .line a) (sampS l a false).2 (W l .line) := by
  have h1 : Gs (W l .line a) (nmS l owName a false) (fk2 l 123 .g0 32 (.d0 false)) := by
    refine gs_then (gs_nm (q := .sn) rfl (fun hl => ?_) (fun c hc => ?_)) (fun hr => fk2_of rfl (fun hp => ?_))
    · show (if bt l a = 35 then _ else _) = _
      rw [if_neg (isB_f h35 hl)]
    · show (if owName c = true then _ else _) = _
      rw [if_pos hc]
    · show (if owName _ = true then _ else if _ = 123 then _ else if _ = 32 then _ else _) = _
      rw [if_neg (by rw [nm_stop hr hp]; simp)]
  have l1 := nmS_le (l := l) owName false ha
  unfold sampS
  simp only
  generalize nmS l owName a false = n at h1 l1 ⊢
  have h2 := Gs.bind (F := fun p no => (otagsS l p no).2) h1 (by simp [otagsS, isB_no]) (fun _ => gs_tags l1.2)
  have l2 := otagsS_le (l := l) n.2 l1.2
  try simp only at h2
  generalize otagsS l n.1 n.2 = t at h2 l2 ⊢
  have h3 := Gs.bind (F := fun p no => wordS l [32] p no) h2 (word_no _ _ _) (fun _ => gs_word1 32 (.d0 false) _)
  try simp only at h3
  generalize wordS l [32] t.2.1 t.2.2 = w at h3 ⊢
  have h4 := Gs.bind (F := fun p no => decS l p no) h3 (dec_no _) (fun _ => gs_dec)
  try simp only at h4
  generalize decS l w.1 w.2 = d at h4 ⊢
  cases k : isB l d.1 d.2 32
  · rw [if_neg (by simp)]
    refine Gs.bind (F := fun p no => wordS l [10] p no) (y := fk1 l 10 .line) (gs_then h4 (fun hr => ?_)) (word_no _ _ _) (fun _ => gs_word1 10 .line _)
    rw [hr] at k
    unfold aftV
    rw [k, if_neg (by simp)]
  · have hlt := isB_lt k
    rw [if_pos rfl]
    unfold Gs at h4
    rw [hlt.2.1] at h4 k
    rw [if_neg (by simp)] at h4
    unfold aftV at h4
    rw [if_pos ⟨rfl, k⟩] at h4
    rw [h4]
    have h5 := gs_dec (l := l) (m := true) (a := d.1 + 1)
    refine Gs.bind (F := fun p no => wordS l [10] p no) (y := fk1 l 10 .line) (gs_then h5 (fun hr => ?_)) (word_no _ _ _) (fun _ => gs_word1 10 .line _)
    unfold aftV
    rw [if_neg (by simp)]
/-- What is told of a family. -/
def kindQ : Nat → TK
  | 1 => .t
  | 2 => .u
  | _ => .h
theorem gs_text {K a : Nat} (ha : a ≤ l.length) (hK : K = 1 ∨ K = 2 ∨ K = 3) : Gs (W l (toldQ (kindQ K)) a) (otextS l K a false).2 (fk1 l 10 .line) := by
  rcases hK with rfl | rfl | rfl
  · exact gs_some1 (P := smB) (q := .xt) rfl rfl (fun _ => rfl) (fun _ => rfl)
  · exact gs_some1 (P := owName) (q := .xu) rfl rfl (fun _ => rfl) (fun _ => rfl)
  · exact gs_hh ha
theorem gs_told {K a : Nat} {word : List UInt8} {x : Int} (ha : a ≤ l.length) (hK : K = 1 ∨ K = 2 ∨ K = 3) (hw : Gs x (wordS l word a false) (W l (.n0 (kindQ K)))) : Gs x (otoldS l K word a false).2 (W l .line) := by
  unfold otoldS
  simp only
  have l1 := wordS_le l word a false ha
  generalize wordS l word a false = w at hw l1 ⊢
  have h2 := Gs.bind (F := fun p no => nmS l owName p no) hw (nm_no _ _) (fun _ => gs_nm1 (P := owName) (q := .n (kindQ K)) (q' := toldQ (kindQ K)) (c := 32) rfl rfl (fun _ => rfl) (fun _ => rfl))
  have l2 := nmS_le (l := l) owName w.2 l1.2
  try simp only at h2
  generalize nmS l owName w.1 w.2 = n at h2 l2 ⊢
  have h3 := Gs.bind (F := fun p no => wordS l [32] p no) h2 (word_no _ _ _) (fun _ => gs_word1 32 _ _)
  have l3 := wordS_le l [32] n.1 n.2 l2.2
  try simp only at h3
  generalize wordS l [32] n.1 n.2 = b at h3 l3 ⊢
  have h0 : (otextS l K b.1 true).2 = (b.1, true) := by
    rcases hK with rfl | rfl | rfl
    · simp [otextS, someS]
    · simp [otextS, someS]
    · exact ink_no (l := l) 10 inH 110 b.1
  have h4 := Gs.bind (F := fun p no => (otextS l K p no).2) h3 h0 (fun _ => gs_text l3.2 hK)
  try simp only at h4
  generalize otextS l K b.1 b.2 = t at h4 ⊢
  exact Gs.bind (F := fun p no => wordS l [10] p no) h4 (word_no _ _ _) (fun _ => gs_word1 10 _ _)
theorem gs_headed {c : UInt8} {cs : List UInt8} {qs : List OQ} {q0 q q' : OQ} {a : Nat} (hb : isB l a false c.toNat = true) (hst : stO q0 c.toNat = some q) (h1 : qs.length + 1 = cs.length) (h2 : ∀ i (hi : i < cs.length), acO ((q :: qs).getD i q) = false ∧ stO ((q :: qs).getD i q) (cs[i].toNat) = some ((qs ++ [q']).getD i q) ∧ ∀ d : Int, d ≠ cs[i].toNat → stO ((q :: qs).getD i q) d = none) : Gs (W l q0 a) (wordS l (c :: cs) a false) (W l q') := by
  have hk := isB_iff.1 hb
  rw [word_head hb]
  have : W l q0 a = W l q (a + 1) := vd_yes hk.1 (by rw [hk.2]; exact hst)
  rw [this]
  exact gs_wordQ h1 h2
theorem gs_line {a : Nat} (ha : a ≤ l.length) : Gs (W l .line a) (olineS l a).2 (if (olineS l a).1.2 = true then W l .e1 else W l .line) := by
  unfold olineS
  cases k : isB l a false 35
  · rw [if_neg (by simp)]
    exact gs_samp ha k
  · rw [if_pos rfl]
    have h1 : Gs (W l .line a) (wordS l wHash a false) (W l .h2) := gs_headed (c := 35) (cs := [32]) (qs := []) (q := .h1) k rfl rfl (fun i hi => by
      match i, hi with
      | 0, _ => exact ⟨rfl, rfl, fun d hd => if_neg hd⟩)
    have l1 := wordS_le l wHash a false ha
    simp only
    generalize wordS l wHash a false = w at h1 l1 ⊢
    obtain ⟨p, np⟩ := w
    cases np
    · unfold Gs at h1
      rw [if_neg (by simp)] at h1
      simp only at h1 l1 ⊢
      rw [h1]
      cases k1 : isB l p false 84
      · rw [if_neg (by simp)]
        cases k2 : isB l p false 85
        · rw [if_neg (by simp)]
          cases k3 : isB l p false 72
          · rw [if_neg (by simp)]
            simp only [if_true]
            cases k4 : isB l p false 69
            · have e : wordS l wEOF p false = (p, true) := by
                unfold wEOF wordS; rw [if_neg (by simp)]
                have k5 : isB l p false ((69 : UInt8).toNat : Int) = false := k4
                rw [k5]; simp
              rw [e]
              unfold Gs
              rw [if_pos rfl]
              by_cases hp : p < l.length
              · refine vd_no hp ?_
                show (if _ = 84 then _ else if _ = 85 then _ else if _ = 72 then _ else if _ = 69 then _ else _) = _
                rw [if_neg (isB_f k1 hp), if_neg (isB_f k2 hp), if_neg (isB_f k3 hp), if_neg (isB_f k4 hp)]
              · exact vd_end (by omega) rfl
            · exact gs_headed (c := 69) (cs := [79, 70]) (qs := [.eF]) (q := .eO) k4 rfl rfl (fun i hi => by
                match i, hi with
                | 0, _ => exact ⟨rfl, rfl, fun d hd => if_neg hd⟩
                | 1, _ => exact ⟨rfl, rfl, fun d hd => if_neg hd⟩)
          · rw [if_pos rfl]
            exact gs_told (K := 3) l1.2 (.inr (.inr rfl)) (gs_headed (c := 72) (cs := [69, 76, 80, 32]) (qs := [.hL, .hP, .hS]) (q := .hE) k3 rfl rfl (fun i hi => by
              match i, hi with
              | 0, _ => exact ⟨rfl, rfl, fun d hd => if_neg hd⟩
              | 1, _ => exact ⟨rfl, rfl, fun d hd => if_neg hd⟩
              | 2, _ => exact ⟨rfl, rfl, fun d hd => if_neg hd⟩
              | 3, _ => exact ⟨rfl, rfl, fun d hd => if_neg hd⟩))
        · rw [if_pos rfl]
          exact gs_told (K := 2) l1.2 (.inr (.inl rfl)) (gs_headed (c := 85) (cs := [78, 73, 84, 32]) (qs := [.uI, .uT, .uS]) (q := .uN) k2 rfl rfl (fun i hi => by
            match i, hi with
            | 0, _ => exact ⟨rfl, rfl, fun d hd => if_neg hd⟩
            | 1, _ => exact ⟨rfl, rfl, fun d hd => if_neg hd⟩
            | 2, _ => exact ⟨rfl, rfl, fun d hd => if_neg hd⟩
            | 3, _ => exact ⟨rfl, rfl, fun d hd => if_neg hd⟩))
      · rw [if_pos rfl]
        exact gs_told (K := 1) l1.2 (.inl rfl) (gs_headed (c := 84) (cs := [89, 80, 69, 32]) (qs := [.tP, .tE, .tS]) (q := .tY) k1 rfl rfl (fun i hi => by
          match i, hi with
          | 0, _ => exact ⟨rfl, rfl, fun d hd => if_neg hd⟩
          | 1, _ => exact ⟨rfl, rfl, fun d hd => if_neg hd⟩
          | 2, _ => exact ⟨rfl, rfl, fun d hd => if_neg hd⟩
          | 3, _ => exact ⟨rfl, rfl, fun d hd => if_neg hd⟩))
    · simp only [isB_no, Bool.false_eq_true, if_false]
      rw [word_no]
      unfold Gs at h1 ⊢
      rw [if_pos rfl] at h1 ⊢
      exact h1
/-- What stands behind the last line. -/
theorem v_end {p : Nat} (hp : p ≤ l.length) : W l .e1 p = if (oendS l p false).2 = true then ((oendS l p false).1 : Int) else -1 := by
  by_cases h : p = l.length
  · have he : (p == l.length) = true := by rw [beq_iff_eq]; exact h
    rw [oend_at l p he, if_neg (by simp)]
    exact vd_acc (by omega) rfl
  · have he : (p == l.length) = false := by rw [beq_eq_false_iff_ne]; exact h
    have hlt : p < l.length := by omega
    cases k : isB l p false ((10 : UInt8).toNat : Int)
    · have hn := isB_f k hlt
      have hw : wordS l [10] p false = (p, true) := by rw [word1, k]; rfl
      rw [oend_word l p he hw, he, if_pos (by simp)]
      exact vd_no hlt (if_neg hn)
    · have hk := isB_iff.1 k
      have hw : wordS l [10] p false = (p + 1, false) := by rw [word1, k]; rfl
      rw [oend_word l p he hw]
      have h2 : W l .e1 p = W l .e2 (p + 1) := vd_yes hlt (by rw [hk.2]; rfl)
      rw [h2]
      by_cases h3 : p + 1 = l.length
      · have he2 : (p + 1 == l.length) = true := by rw [beq_iff_eq]; exact h3
        rw [he2]
        simp only [if_true, Bool.false_eq_true, if_false]
        exact vd_acc (by omega) rfl
      · have he2 : (p + 1 == l.length) = false := by rw [beq_eq_false_iff_ne]; exact h3
        rw [he2]
        simp only [if_true, Bool.false_eq_true, if_false]
        exact vd_no (by omega) rfl
theorem v_orows : ∀ f a acc, l.length < f + a → a ≤ l.length → W l .line a = if (oendS l (orowsGo l f a acc).2.1 (orowsGo l f a acc).2.2).2 = true then ((oendS l (orowsGo l f a acc).2.1 (orowsGo l f a acc).2.2).1 : Int) else -1
  | 0, a, acc, hf, hl => by omega
  | f + 1, a, acc, hf, hl => by
    have hv := gs_line (l := l) hl
    have hle := olineS_le (l := l) hl
    have hlt := oline_lt (l := l) hl
    unfold Gs at hv
    cases h1 : (olineS l a).1.2
    · rw [h1] at hv hlt
      cases h2 : (olineS l a).2.2
      · rw [h2] at hv hlt
        have e : orowsGo l (f + 1) a acc = orowsGo l f (olineS l a).2.1 (acc ++ (olineS l a).1.1.toList) := by
          conv => lhs; unfold orowsGo
          rw [h1, h2, if_neg (by simp), if_neg (by simp)]
        rw [e]
        simp only [Bool.false_eq_true, if_false] at hv
        rw [hv]
        exact v_orows f _ _ (by have := hlt rfl rfl; omega) hle.2
      · rw [h2, if_pos rfl] at hv
        have e : (orowsGo l (f + 1) a acc).2 = ((olineS l a).2.1, true) := by
          unfold orowsGo
          rw [h1, h2, if_neg (by simp), if_pos rfl]
        rw [e]
        simp only [oend_no, if_true]
        exact hv
    · rw [h1] at hv
      have e : (orowsGo l (f + 1) a acc).2 = (olineS l a).2 := by
        unfold orowsGo
        rw [h1, if_pos rfl]
      rw [e]
      cases h2 : (olineS l a).2.2
      · rw [h2] at hv
        simp only [Bool.false_eq_true, if_false, if_true] at hv
        rw [hv]
        exact v_end hle.2
      · rw [h2, if_pos rfl] at hv
        simp only [oend_no, if_true]
        exact hv
theorem openBad_eq (l : List UInt8) : openBad l = vdGo stO acO .line l 0 := by
  unfold openBad openRows
  simp only
  rw [← v_orows (l.length + 2) 0 [] (by omega) (by omega)]
  rfl
theorem openBad_bd (l : List UInt8) : -1 ≤ openBad l ∧ openBad l ≤ l.length := by
  rw [openBad_eq]
  have := vdGo_bd (st := stO) (ac := acO) l OQ.line 0
  omega
theorem openBad_far {l : List UInt8} {k : Nat} (h : openBad l = (k : Int)) (hk : k < l.length) (e : List UInt8) : openBad (l.take (k + 1) ++ e) = k := by
  rw [openBad_eq] at h ⊢
  exact vdGo_far l OQ.line 0 k h (by omega) e
theorem openBad_pre {l : List UInt8} {k : Nat} (h : openBad l = (k : Int)) : openBad (l.take k) = k ∨ openBad (l.take k) = -1 := by
  rw [openBad_eq] at h ⊢
  exact vdGo_pre l OQ.line k h
end
def endsO : List (List UInt8) := [[97, 123, 97, 61, 34, 110, 34, 125, 32, 49, 46, 49, 32, 49, 46, 49, 10, 35, 32, 69, 79, 70], [35, 32, 84, 89, 80, 69, 32, 97, 32, 97, 10, 35, 32, 69, 79, 70], [35, 32, 85, 78, 73, 84, 32, 97, 32, 97, 10, 35, 32, 69, 79, 70], [35, 32, 72, 69, 76, 80, 32, 97, 32, 110, 10, 35, 32, 69, 79, 70]]
def rowQ : TK → Nat
  | .t => 1 | .u => 2 | .h => 3
def closeO : OQ → Nat × Nat × Nat
  | .line => (0, 0, 17) | .h1 => (0, 0, 18) | .h2 => (0, 0, 19) | .tY => (0, 1, 3) | .tP => (0, 1, 4) | .tE => (0, 1, 5) | .tS => (0, 1, 6)
  | .uN => (0, 2, 3) | .uI => (0, 2, 4) | .uT => (0, 2, 5) | .uS => (0, 2, 6) | .hE => (0, 3, 3) | .hL => (0, 3, 4) | .hP => (0, 3, 5) | .hS => (0, 3, 6)
  | .eO => (0, 0, 20) | .eF => (0, 0, 21) | .e1 => (0, 0, 22) | .e2 => (0, 0, 22)
  | .n0 k => (0, rowQ k, 7) | .n k => (0, rowQ k, 8) | .x0t => (0, 1, 9) | .xt => (0, 1, 10) | .x0u => (0, 2, 9) | .xu => (0, 2, 10) | .hh => (0, 3, 10) | .hhE => (0, 3, 9) | .hhU u => (closeU u, 3, 10)
  | .sn => (0, 0, 8) | .g0 => (0, 0, 7) | .g1 => (0, 0, 2) | .g => (0, 0, 3) | .gq => (0, 0, 4) | .v => (0, 0, 6) | .vE => (0, 0, 5) | .vU u => (closeU u, 0, 6) | .vz => (0, 0, 7) | .sp => (0, 0, 8)
  | .d0 m => (0, 0, if m then 13 else 9) | .dN m => (0, 0, if m then 13 else 9) | .di m => (0, 0, if m then 16 else 12) | .dp m => (0, 0, if m then 15 else 11) | .df m => (0, 0, if m then 16 else 12)
theorem closeO_ok (q : OQ) : (closeO q).1 < 9 ∧ (closeO q).2.1 < 4 ∧ (closeO q).2.2 ≤ (endsO.getD (closeO q).2.1 []).length ∧ vdGo stO acO q (restU.getD (closeO q).1 [] ++ (endsO.getD (closeO q).2.1 []).drop (closeO q).2.2) 0 = -1 := by
  cases q
  case hhU u => cases u <;> exact ⟨by decide, by decide, by decide, by decide +kernel⟩
  case vU u => cases u <;> exact ⟨by decide, by decide, by decide, by decide +kernel⟩
  case n0 k => cases k <;> exact ⟨by decide, by decide, by decide, by decide +kernel⟩
  case n k => cases k <;> exact ⟨by decide, by decide, by decide, by decide +kernel⟩
  case d0 m => cases m <;> exact ⟨by decide, by decide, by decide, by decide +kernel⟩
  case dN m => cases m <;> exact ⟨by decide, by decide, by decide, by decide +kernel⟩
  case di m => cases m <;> exact ⟨by decide, by decide, by decide, by decide +kernel⟩
  case dp m => cases m <;> exact ⟨by decide, by decide, by decide, by decide +kernel⟩
  case df m => cases m <;> exact ⟨by decide, by decide, by decide, by decide +kernel⟩
  all_goals exact ⟨by decide, by decide, by decide, by decide +kernel⟩
theorem open_closes {l : List UInt8} {k : Nat} (hk : k ≤ l.length) (h : openBad l = -1 ∨ (k : Int) ≤ openBad l) : ∃ r i j, r < 9 ∧ i < 4 ∧ j ≤ (endsO.getD i []).length ∧ openBad (l.take k ++ (restU.getD r [] ++ (endsO.getD i []).drop j)) = -1 := by
  rw [openBad_eq] at h
  obtain ⟨q, hq, _⟩ := vdGo_reach (st := stO) (ac := acO) k l OQ.line 0 hk (by simpa using h)
  obtain ⟨h1, h2, h3, h4⟩ := closeO_ok q
  refine ⟨_, _, _, h1, h2, h3, ?_⟩
  rw [openBad_eq, hq]
  exact vdGo_neg _ _ _ _ h4
theorem far_at {s : ByteArray} {k : Nat} (h : openBad s.data.toList = (k : Int)) (hk : k < s.size) (e : ByteArray) : openBad (s.extract 0 (k + 1) ++ e).data.toList = k := by
  rw [str_app, ext_bytes, List.drop_zero, Nat.sub_zero]
  exact openBad_far h (by simpa using hk) _
theorem pre_at {s : ByteArray} {k : Nat} (h : openBad s.data.toList = (k : Int)) : openBad (s.extract 0 k).data.toList = k ∨ openBad (s.extract 0 k).data.toList = -1 := by
  rw [ext_bytes, List.drop_zero, Nat.sub_zero]
  exact openBad_pre h
set_option maxRecDepth 100000 in
set_option maxHeartbeats 3200000 in
theorem far17_any (s : ByteArray) (A : Option Addr) (n cap : Nat) (xs : List ByteArray) (m : Int) (w : World) (hm : MxAt w m) (hl : IsRows strCell 1 w w.heap.size A n xs) (hn : n ≤ 9223372036854775807) (hs : s.size ≤ 9223372036854775807) :
    Calls Tryd.prog 4 #[.string s, .slice A n cap] w fun e w' => e = .returned (.bool true) ∧ Below w.heap.size w w' := by
  by_cases hbig : 1000 < s.size ∨ 8 < n
  · by_cases h1000 : 1000 < s.size
    · have hd1 : decide ((1000 : Int) < s.size) = true := decide_eq_true (by omega)
      go_enter Tryd.func4, Tryd.ntmps4
      go_wp2_with (go_at_call 8; refine (known17_any m _ hm).mono ?_; rintro e w1 ⟨rfl, hb1⟩)
      go_ret
      exact ⟨rfl, hb1⟩
    · have hd1 : decide ((1000 : Int) < s.size) = false := decide_eq_false (by omega)
      have hd2 : decide ((8 : Int) < n) = true := decide_eq_true (by omega)
      go_enter Tryd.func4, Tryd.ntmps4
      go_wp2_with (go_at_call 8; refine (known17_any m _ hm).mono ?_; rintro e w1 ⟨rfl, hb1⟩)
      go_ret
      exact ⟨rfl, hb1⟩
  have hd1 : decide ((1000 : Int) < s.size) = false := decide_eq_false (by omega)
  have hd2 : decide ((8 : Int) < n) = false := decide_eq_false (by omega)
  have h1000 : s.size ≤ 1000 := by omega
  have h8 : n ≤ 8 := by omega
  clear hbig
  have hbd := openBad_bd s.data.toList
  have hL : s.data.toList.length = s.size := by simp
  rw [hL] at hbd
  have kB := fun W => bad_any' s W (by omega)
  rcases Int.lt_or_le (openBad s.data.toList) 0 with hneg | hpos
  · have hk : openBad s.data.toList = -1 := by omega
    rw [hk] at kB
    clear hk hbd hneg
    have hdk : decide ((s.size : Int) < -1) = false := decide_eq_false (by omega)
    go_enter Tryd.func4, Tryd.ntmps4
    go_wp2_with (first
      | (go_at_call 8; refine (known17_any m _ hm).mono ?_; rintro e w1 ⟨rfl, hb1⟩)
      | (go_at_call 11; (with_reducible refine (kB _).mono ?_); rintro e w2 ⟨rfl, hb2⟩))
    refine wp_loop_rounds 1 ?_
    rw [rounds_succ]
    cases hn0 : decide ((0 : Int) < n)
    all_goals
      go_wp2_with fail
      all_goals go_ret
      all_goals exact ⟨rfl, bl_any hb1 hb2⟩
  · obtain ⟨k, hk⟩ : ∃ k : Nat, openBad s.data.toList = (k : Int) := ⟨(openBad s.data.toList).toNat, by omega⟩
    have hks : k ≤ s.size := by omega
    have kF := fun e (hk2 : k < s.size) => far_at hk hk2 e
    have kP := pre_at hk
    rw [hk] at kB
    clear hbd hpos hk
    have hdk : decide ((k : Int) < -1) = false := decide_eq_false (by omega)
    have hdk2 : decide ((s.size : Int) < k) = false := decide_eq_false (by omega)
    have hdk5 : decide (s.size < k) = false := decide_eq_false (by omega)
    have hdk3 : decide (0 ≤ (k : Int)) = true := decide_eq_true (by omega)
    have hdk4 : decide ((k : Int) < 0) = false := decide_eq_false (by omega)
    have hi0 : (0 : Int) ≤ k := by omega
    have hi1 : (k : Int) ≤ s.size := by omega
    obtain ⟨x, hx⟩ : ∃ x, openBad (s.extract 0 k).data.toList = x := ⟨_, rfl⟩
    rw [hx] at kP
    have kX := fun W => knB (s.extract 0 k) x hx (by rw [ByteArray.size_extract]; omega) W
    clear hx
    go_enter Tryd.func4, Tryd.ntmps4
    go_wp2_with (first
      | (go_at_call 8; refine (known17_any m _ hm).mono ?_; rintro e w1 ⟨rfl, hb1⟩)
      | (go_at_call 11; (with_reducible refine (kB _).mono ?_); rintro e w2 ⟨rfl, hb2⟩))
    have hb02 := bl_any hb1 hb2
    go_loopw [6] (fun i wr => Below w.heap.size w wr ∧ ∃ j : Nat, j ≤ n ∧ i = .int .i64 j) (fun i _ => n - (intOf i).toNat)
    case atStart => exact ⟨hb02, 0, by omega, rfl⟩
    case round =>
      obtain ⟨hbr, j, hj, rfl⟩ := hrel
      by_cases hin : j < n ∧ k < s.size
      · obtain ⟨hjn, hks2⟩ := hin
        have hdj : decide ((j : Int) < n) = true := decide_eq_true (by omega)
        have hdj2 : decide ((k : Int) < s.size) = true := decide_eq_true (by omega)
        obtain ⟨b, off, hA, hb, hc⟩ := hl.2 (by omega)
        subst hA
        obtain ⟨y, hy⟩ : ∃ y, xs[j]? = some y := ⟨_, List.getElem?_eq_getElem (by rw [hl.1]; exact hjn)⟩
        have c0 : wr.cell? ⟨b, off + j, none⟩ = some (.string y) := (hbr.cell (p := ⟨b, off + j, none⟩) hb).trans (by have := hc j y 0 _ hy rfl; simpa using this)
        have hj0 : (0 : Int) ≤ j := by omega
        have hj1 : (j : Int) < n := by omega
        have hq1 : IntKind.i64.wrap ((k : Int) + 1) = (k : Int) + 1 := IntWalk.i64_in _ (by omega)
        have hq2 : (k : Int) + 1 ≤ s.size := by omega
        have hq3 : (0 : Int) ≤ (k : Int) + 1 := by omega
        clear hy hc
        by_cases h200 : y.size ≤ 200
        · have hd200 : decide ((y.size : Int) ≤ 200) = true := decide_eq_true (by omega)
          have kY := fun W => knB (s.extract 0 (k + 1) ++ y) k (kF y hks2) (by rw [ByteArray.size_append, ByteArray.size_extract]; omega) W
          have hsz : ¬ 9223372036854775807 < min (k + 1) s.size - 0 + y.size := by omega
          have hsz2 : ¬ 9223372036854775807 < min (k + 1) s.size + y.size := by omega
          go_wp2_with fail
          go_region_held3 (fun w' => w'.cell? ⟨b, off + j, none⟩ = some (.string y)) (first | (simp [go_sem, *]; done)) (first
            | (go_at_call 11; refine (kY _).mono ?_; rintro e w3 ⟨rfl, hb3⟩; have c3 : w3.cell? ⟨b, off + j, none⟩ = some (.string y) := (hb3.cell (p := ⟨b, off + j, none⟩) (by have := hbr.size; first | omega | (simp; omega))).trans (by simpa using c0)))
          go_wp2_with fail
          exact ⟨⟨bl_any (by first | exact hbr | exact bl_drewN hbr 1 | exact bl_drewN hbr 2) hb3, j + 1, by omega, rfl⟩, by (simp only [intOf]; omega)⟩
        · have hd200 : decide ((y.size : Int) ≤ 200) = false := decide_eq_false (by omega)
          go_wp2_with fail
          go_quiet (fail)
          go_wp2_with fail
          exact ⟨⟨bl_drewN hbr _, j + 1, by omega, rfl⟩, by (simp only [intOf]; omega)⟩
      · by_cases hjn : j < n
        · have hdj : decide ((j : Int) < n) = true := decide_eq_true (by omega)
          have hdj2 : decide ((k : Int) < s.size) = false := decide_eq_false (by omega)
          go_wp2_with (go_at_call 11; (with_reducible refine (kX _).mono ?_); rintro e w3 ⟨rfl, hb3⟩)
          all_goals go_ret
          all_goals first
            | exact ⟨rfl, bl_any hbr hb3⟩
            | exact ⟨ret_bool (by rcases kP with h | h <;> simp [h]), bl_any hbr hb3⟩
        · have hdj : decide ((j : Int) < n) = false := decide_eq_false (by omega)
          go_wp2_with (go_at_call 11; (with_reducible refine (kX _).mono ?_); rintro e w3 ⟨rfl, hb3⟩)
          all_goals go_ret
          all_goals first
            | exact ⟨rfl, bl_any hbr hb3⟩
            | exact ⟨ret_bool (by rcases kP with h | h <;> simp [h]), bl_any hbr hb3⟩
theorem openBad_rows (R : List MRow × Nat × Bool) : (if R.2.2 then (R.2.1 : Int) else -1) = (if R.2.2 = true then (R.2.1 : Int) else -1) := rfl
set_option maxHeartbeats 1600000 in
theorem badHelp_any (s : ByteArray) (w : World) (hs : s.size ≤ 1048576) :
    Calls Tryd.prog 27 #[.int .i64 1, .string s] w fun e w' => e = .returned (.int .i64 (openBad s.data.toList)) ∧ Below w.heap.size w w' := by
  have kQ := rows17_any s w hs
  have hb : openBad s.data.toList = (if (openRows s.data.toList).2.2 then ((openRows s.data.toList).2.1 : Int) else -1) := rfl
  rw [hb]
  generalize openRows s.data.toList = R at kQ
  have kQ2 : Calls Tryd.prog 10 #[.string s] w fun e w' => (∃ A n c, e = .returned (.tuple #[.slice A n c, .int .i64 (if R.2.2 then (R.2.1 : Int) else -1)])) ∧ Below w.heap.size w w' := kQ.mono fun e w' ⟨⟨A, n, c, h, _⟩, h2⟩ => ⟨⟨A, n, c, h⟩, h2⟩
  generalize (if R.2.2 then (R.2.1 : Int) else -1) = B at kQ2 ⊢
  clear kQ hb
  go_enter Tryd.func27, Tryd.ntmps27
  go_wp2_with (go_at_call 10; refine kQ2.mono ?_; rintro e w1 ⟨⟨A, n, c, rfl⟩, hb1⟩)
  go_ret
  exact ⟨rfl, hb1⟩
def endB (i : Nat) : ByteArray := mkS (endsO.getD i [])
def restB (i : Nat) : ByteArray := mkS (restU.getD i [])
/-- The two tables, as they lie in memory. -/
def Tabs (w : World) (g : Nat) : Prop := (∀ i, i < 4 → w.cell? ⟨g, i, none⟩ = some (.string (endB i))) ∧ (∀ r, r < 9 → w.cell? ⟨g + 1, r, none⟩ = some (.string (restB r))) ∧ g + 2 ≤ w.heap.size
theorem Tabs.below {w w' : World} {g : Nat} (h : Tabs w g) (k : Below w.heap.size w w') : Tabs w' g :=
  ⟨fun i hi => (k.cell (p := ⟨g, i, none⟩) (by have := h.2.2; show g < _; omega)).trans (h.1 i hi), fun i hi => (k.cell (p := ⟨g + 1, i, none⟩) (by have := h.2.2; show g + 1 < _; omega)).trans (h.2.1 i hi), by have := h.2.2; have := k.size; omega⟩
theorem tabs_new (w : World) : Tabs ((w.alloc (.cells #[.string ⟨#[97, 123, 97, 61, 34, 110, 34, 125, 32, 49, 46, 49, 32, 49, 46, 49, 10, 35, 32, 69, 79, 70]⟩, .string ⟨#[35, 32, 84, 89, 80, 69, 32, 97, 32, 97, 10, 35, 32, 69, 79, 70]⟩, .string ⟨#[35, 32, 85, 78, 73, 84, 32, 97, 32, 97, 10, 35, 32, 69, 79, 70]⟩, .string ⟨#[35, 32, 72, 69, 76, 80, 32, 97, 32, 110, 10, 35, 32, 69, 79, 70]⟩] 9)).alloc (.cells #[.string ⟨#[]⟩, .string ⟨#[128]⟩, .string ⟨#[160]⟩, .string ⟨#[144]⟩, .string ⟨#[128, 128]⟩, .string ⟨#[160, 128]⟩, .string ⟨#[144, 128]⟩, .string ⟨#[128, 128, 128]⟩, .string ⟨#[144, 128, 128]⟩] 9)) w.heap.size := by
  refine ⟨fun i hi => ?_, fun i hi => ?_, by simp⟩
  · rw [World.cell?_alloc_lt _ _ ⟨_, _, none⟩ (by simp), World.cell?_alloc_at _ _ _ _ rfl]
    match i, hi with
    | 0, _ => rfl
    | 1, _ => rfl
    | 2, _ => rfl
    | 3, _ => rfl
    | n + 4, h => omega
  · rw [World.cell?_alloc_at _ _ _ _ (by simp)]
    match i, hi with
    | 0, _ => rfl
    | 1, _ => rfl
    | 2, _ => rfl
    | 3, _ => rfl
    | 4, _ => rfl
    | 5, _ => rfl
    | 6, _ => rfl
    | 7, _ => rfl
    | 8, _ => rfl
    | n + 9, h => omega
theorem endB_size (i : Nat) : (endB i).size = (endsO.getD i []).length := rfl
theorem endB_le (i : Nat) (h : i < 4) : (endB i).size ≤ 22 := by
  match i, h with
  | 0, _ => decide
  | 1, _ => decide
  | 2, _ => decide
  | 3, _ => decide
  | n + 4, h => omega
theorem restB_le (i : Nat) (h : i < 9) : (restB i).size ≤ 3 := by
  match i, h with
  | 0, _ => decide
  | 1, _ => decide
  | 2, _ => decide
  | 3, _ => decide
  | 4, _ => decide
  | 5, _ => decide
  | 6, _ => decide
  | 7, _ => decide
  | 8, _ => decide
  | n + 9, h => omega
def endT (r i j : Nat) : ByteArray := restB r ++ (endB i).extract j (endB i).size
theorem endT_list (s : ByteArray) (r i j : Nat) : (s ++ endT r i j).data.toList = s.data.toList ++ (restU.getD r [] ++ (endsO.getD i []).drop j) := by
  unfold endT
  rw [str_app, str_app, ext_bytes, List.take_of_length_le (by rw [List.length_drop]; exact Nat.le_refl _)]
  rfl
/-- Is the text with that end one? -/
def clB (s : ByteArray) (r i j : Nat) : Bool := decide (openBad (s ++ endT r i j).data.toList < 0)
def CloseE (s : ByteArray) (e : Ending) : Prop := ∃ t : ByteArray, e = .returned (.tuple #[.string t, .bool true]) ∧ t.size ≤ 25 ∧ openBad (s ++ t).data.toList = -1
theorem closeE_mk {s : ByteArray} {r i j : Nat} (hi : i < 4) (hr : r < 9) (h : clB s r i j = true) : CloseE s (.returned (.tuple #[.string (endT r i j), .bool true])) := by
  refine ⟨_, rfl, ?_, ?_⟩
  · unfold endT
    rw [ByteArray.size_append, ByteArray.size_extract]
    have := endB_le i hi
    have := restB_le r hr
    omega
  · have h1 := openBad_bd (s ++ endT r i j).data.toList
    unfold clB at h
    have := of_decide_eq_true h
    omega
set_option maxRecDepth 100000 in
set_option maxHeartbeats 6400000 in
theorem close_any (s : ByteArray) (w : World) (hs : s.size ≤ 1000) (H : ∃ r i j, r < 9 ∧ i < 4 ∧ j ≤ (endB i).size ∧ clB s r i j = true) :
    Calls Tryd.prog 16 #[.int .i64 1, .string s] w fun e w' => CloseE s e ∧ Below w.heap.size w w' := by
  have hT0 := tabs_new w
  have HH := Lib.hid H
  clear H
  go_enter Tryd.func16, Tryd.ntmps16
  go_wp2_with fail
  go_loopw [8] (fun v wr => (Tabs wr w.heap.size ∧ Below w.heap.size w wr) ∧ ∃ r : Nat, r ≤ 9 ∧ v = .int .i64 r ∧ Hid (∀ r', r' < r → ∀ i j, i < 4 → j ≤ (endB i).size → clB s r' i j = false)) (fun v _ => 9 - (intOf v).toNat)
  case atStart => exact ⟨⟨hT0, ((Below.refl _ _).alloc (Nat.le_refl _) _).alloc (by simp) _⟩, 0, by omega, rfl, Lib.hid (fun r' h => absurd h (by omega))⟩
  case round =>
    clear hT0
    obtain ⟨⟨hT, hb⟩, r, hr, rfl, HA⟩ := hrel
    by_cases hr9 : r < 9
    case neg =>
      exfalso
      obtain ⟨r', i, j, h1, h2, h3, h4⟩ := HH.out
      rw [HA.out r' (by omega) i j h2 h3] at h4
      cases h4
    case pos =>
      have hd : decide ((r : Int) < 9) = true := decide_eq_true (by omega)
      go_wp2_with fail
      go_loopw [9] (fun v wr => (Tabs wr w.heap.size ∧ Below w.heap.size w wr) ∧ ∃ i : Nat, i ≤ 4 ∧ v = .int .i64 i ∧ Hid (∀ i', i' < i → ∀ j, j ≤ (endB i').size → clB s r i' j = false)) (fun v _ => 4 - (intOf v).toNat)
      case atStart => exact ⟨⟨hT, hb⟩, 0, by omega, rfl, Lib.hid (fun r' h => absurd h (by omega))⟩
      case round =>
        clear hT hb hd
        obtain ⟨⟨hT, hb⟩, i, hi, rfl, HB⟩ := hrel
        by_cases hi4 : i < 4
        case neg =>
          have hd : decide ((i : Int) < 4) = false := decide_eq_false (by omega)
          obtain rfl : i = 4 := by omega
          have HA2 : Hid (∀ r', r' < r + 1 → ∀ i j, i < 4 → j ≤ (endB i).size → clB s r' i j = false) := Lib.hid (fun r' h i j h1 h2 => by
            rcases Nat.lt_or_ge r' r with h' | h'
            · exact HA.out r' h' i j h1 h2
            · obtain rfl : r' = r := by omega
              exact HB.out i h1 j h2)
          clear HA HB
          go_wp2_with fail
          exact ⟨⟨⟨hT, hb⟩, r + 1, by omega, rfl, HA2⟩, by (simp only [intOf]; omega)⟩
        case pos =>
          have hd : decide ((i : Int) < 4) = true := decide_eq_true (by omega)
          go_wp2_with fail
          go_loopw [10] (fun v wr => (Tabs wr w.heap.size ∧ Below w.heap.size w wr) ∧ ∃ j : Nat, j ≤ (endB i).size + 1 ∧ v = .int .i64 j ∧ Hid (∀ j', j' < j → clB s r i j' = false)) (fun v _ => (endB i).size + 1 - (intOf v).toNat)
          case atStart => exact ⟨⟨hT, hb⟩, 0, by omega, rfl, Lib.hid (fun r' h => absurd h (by omega))⟩
          case round =>
            clear hT hb hd
            obtain ⟨⟨hT, hb⟩, j, hj, rfl, HC⟩ := hrel
            have c1 := hT.1 i hi4
            have c2 := hT.2.1 r hr9
            have hi0 : (0 : Int) ≤ i := by omega
            have hi1 : (i : Int) < 4 := by omega
            have hr0 : (0 : Int) ≤ r := by omega
            have hr1 : (r : Int) < 9 := by omega
            have hz1 := endB_le i hi4
            have hz2 := restB_le r hr9
            by_cases hjl : j ≤ (endB i).size
            case neg =>
              have hd : decide ((j : Int) ≤ (endB i).size) = false := decide_eq_false (by omega)
              have HB2 : Hid (∀ i', i' < i + 1 → ∀ j, j ≤ (endB i').size → clB s r i' j = false) := Lib.hid (fun i' h j' h2 => by
                rcases Nat.lt_or_ge i' i with h' | h'
                · exact HB.out i' h' j' h2
                · obtain rfl : i' = i := by omega
                  exact HC.out j' (by omega))
              clear HB HC
              obtain ⟨n, hn⟩ : ∃ n, n = (endB i).size := ⟨_, rfl⟩
              rw [← hn] at hz1 hj hjl hd
              have HN := Lib.hid hn
              clear hn
              generalize endB i = E at c1 HN
              have hn2 : E.size = n := HN.out.symm
              go_wp2_with fail
              exact ⟨⟨⟨hT, hb⟩, i + 1, by omega, rfl, HB2⟩, by (simp only [intOf]; omega)⟩
            case pos =>
              have hd : decide ((j : Int) ≤ (endB i).size) = true := decide_eq_true (by omega)
              have hj0 : (0 : Int) ≤ j := by omega
              have hj1 : (j : Int) ≤ (endB i).size := by omega
              have hs3 : (endT r i j).size ≤ 25 := by
                unfold endT; rw [ByteArray.size_append, ByteArray.size_extract]; omega
              have kB := fun W => badHelp_any (s ++ endT r i j) W (by rw [ByteArray.size_append]; omega)
              have hCE : clB s r i j = true → CloseE s (.returned (.tuple #[.string (endT r i j), .bool true])) := closeE_mk hi4 hr9
              have HC2 : clB s r i j = false → Hid (∀ j', j' < j + 1 → clB s r i j' = false) := fun h0 => Lib.hid (fun j' h' => by
                rcases Nat.lt_or_ge j' j with h2 | h2
                · exact HC.out j' h2
                · obtain rfl : j' = j := by omega
                  exact h0)
              obtain ⟨cl, hcl⟩ : ∃ cl, clB s r i j = cl := ⟨_, rfl⟩
              have hcl2 : decide (openBad (s ++ endT r i j).data.toList < 0) = cl := hcl
              rw [hcl] at hCE HC2
              have HT1 : Hid (endT r i j = restB r ++ (endB i).extract j (endB i).size) := Lib.hid rfl
              generalize openBad (s ++ endT r i j).data.toList = B at kB hcl2
              generalize endT r i j = T at HT1 hs3 kB hCE
              obtain ⟨n, hn⟩ : ∃ n, n = (endB i).size := ⟨_, rfl⟩
              rw [← hn] at hz1 hj hjl hj1 hd
              have HN := Lib.hid hn
              clear hn hcl HC
              generalize endB i = E at c1 HT1 HN
              generalize restB r = X at c2 HT1 hz2
              have hn2 : E.size = n := HN.out.symm
              have hl1 : ¬ 9223372036854775807 < X.size + (n - j) := by omega
              have hl2 : ¬ 9223372036854775807 < s.size + T.size := by omega
              have hmin : min n n = n := Nat.min_self n
              go_wp2_with fail
              have HT2 : Hid (X ++ E.extract j n = T) := Lib.hid (by rw [HT1.out, hn2])
              go_quiet (fail)
              rw [HT2.out]
              clear HT2 HT1 hl1
              cases cl
              case true =>
                have HCE := Lib.hid (hCE rfl)
                clear hCE HC2
                go_wp2_with (go_at_call 27; refine (kB _).mono ?_; rintro e w4 ⟨rfl, hb4⟩)
                go_ret2
                exact ⟨HCE.out, bl_any (bl_drewN hb _) hb4⟩
              case false =>
                have HC3 := HC2 rfl
                clear hCE HC2
                go_wp2_with (go_at_call 27; refine (kB _).mono ?_; rintro e w4 ⟨rfl, hb4⟩)
                have hT4 : Tabs w4 w.heap.size := Tabs.below (w := wr) (w' := w4) hT (bl_any (bl_drewN (Below.refl _ _) nq) hb4)
                exact ⟨⟨⟨hT4, bl_any (bl_drewN hb _) hb4⟩, j + 1, by omega, rfl, HC3⟩, by (simp only [intOf]; omega)⟩
theorem closes_at {s : ByteArray} {k : Nat} (hk : k ≤ s.size) (h : openBad s.data.toList = -1 ∨ (k : Int) ≤ openBad s.data.toList) : ∃ r i j, r < 9 ∧ i < 4 ∧ j ≤ (endB i).size ∧ clB (s.extract 0 k) r i j = true := by
  obtain ⟨r, i, j, h1, h2, h3, h4⟩ := open_closes (l := s.data.toList) (k := k) (by simpa using hk) h
  refine ⟨r, i, j, h1, h2, h3, ?_⟩
  unfold clB
  rw [endT_list, ext_bytes, List.drop_zero, Nat.sub_zero, h4]
  decide
set_option maxRecDepth 100000 in
set_option maxHeartbeats 3200000 in
theorem closes17_any (s : ByteArray) (c : Int) (m : Int) (w : World) (hm : MxAt w m) (hs : s.size ≤ 9223372036854775807) (hc0 : 0 ≤ c) (hc1 : c ≤ 65535) :
    Calls Tryd.prog 5 #[.string s, .int .u16 c] w fun e w' => e = .returned (.bool true) ∧ Below w.heap.size w w' := by
  by_cases h300 : 300 < s.size
  · have hd1 : decide ((300 : Int) < s.size) = true := decide_eq_true (by omega)
    go_enter Tryd.func5, Tryd.ntmps5
    go_wp2_with (go_at_call 8; refine (known17_any m _ hm).mono ?_; rintro e w1 ⟨rfl, hb1⟩)
    go_ret
    exact ⟨rfl, hb1⟩
  have hd1 : decide ((300 : Int) < s.size) = false := decide_eq_false (by omega)
  have hbd := openBad_bd s.data.toList
  have hL : s.data.toList.length = s.size := by simp
  rw [hL] at hbd
  have kB := fun W => bad_any' s W (by omega)
  have hfin : ∀ k : Nat, k ≤ s.size → (openBad s.data.toList = -1 ∨ (k : Int) ≤ openBad s.data.toList) → ∀ W, Calls Tryd.prog 16 #[.int .i64 1, .string (s.extract 0 k)] W fun e w' => CloseE (s.extract 0 k) e ∧ Below W.heap.size W w' := fun k hk h W => close_any (s.extract 0 k) W (by rw [ByteArray.size_extract]; omega) (closes_at hk h)
  rcases Int.lt_or_le (openBad s.data.toList) 0 with hneg | hpos
  · have hk : openBad s.data.toList = -1 := by omega
    obtain ⟨k, hkk⟩ : ∃ k : Nat, (k : Int) = c % ((s.size : Int) + 1) := ⟨(c % ((s.size : Int) + 1)).toNat, Int.toNat_of_nonneg (Int.emod_nonneg _ (by omega))⟩
    have hks : k ≤ s.size := by
      have := Int.emod_lt_of_pos c (show (0 : Int) < (s.size : Int) + 1 by omega)
      omega
    have kC := hfin k hks (.inl hk)
    have hm1 : c % ((s.size : Int) + 1) = (k : Int) := hkk.symm
    have hm2 : c.tmod ((s.size : Int) + 1) = (k : Int) := by rw [Int.tmod_eq_emod_of_nonneg hc0]; exact hm1
    have hse : (s.extract 0 k).size ≤ 300 := by rw [ByteArray.size_extract]; omega
    rw [hk] at kB
    have hd2 : decide ((s.size : Int) < k) = false := decide_eq_false (by omega)
    have hd3 : decide (s.size < k) = false := decide_eq_false (by omega)
    have hi0 : (0 : Int) ≤ k := by omega
    have hi1 : (k : Int) ≤ s.size := by omega
    clear hk hbd hneg hfin hkk
    go_enter Tryd.func5, Tryd.ntmps5
    go_wp2_with (first
      | (go_at_call 8; refine (known17_any m _ hm).mono ?_; rintro e w1 ⟨rfl, hb1⟩)
      | (go_at_call 11; (with_reducible refine (kB _).mono ?_); rintro e w2 ⟨rfl, hb2⟩)
      | (go_at_call 16; refine (kC _).mono ?_; rintro e w3 ⟨⟨t, rfl, ht, hbt⟩, hb3⟩; have kT := fun W => knB (s.extract 0 k ++ t) (-1) hbt (by rw [ByteArray.size_append]; omega) W; clear hbt; have hl2 : ¬ 9223372036854775807 < min k s.size - 0 + t.size := (by omega); have hl3 : ¬ 9223372036854775807 < min k s.size + t.size := (by omega))
      | (go_at_call 11; (with_reducible refine (kT _).mono ?_); rintro e w4 ⟨rfl, hb4⟩))
    go_ret
    exact ⟨rfl, bl_any (bl_any (bl_any hb1 hb2) hb3) hb4⟩
  · obtain ⟨k, hk⟩ : ∃ k : Nat, openBad s.data.toList = (k : Int) := ⟨(openBad s.data.toList).toNat, by omega⟩
    have hks : k ≤ s.size := by omega
    have kC := hfin k hks (.inr (by omega))
    have hse : (s.extract 0 k).size ≤ 300 := by rw [ByteArray.size_extract]; omega
    rw [hk] at kB
    have hd2 : decide ((s.size : Int) < k) = false := decide_eq_false (by omega)
    have hd3 : decide (s.size < k) = false := decide_eq_false (by omega)
    have hd4 : decide ((k : Int) < 0) = false := decide_eq_false (by omega)
    have hi0 : (0 : Int) ≤ k := by omega
    have hi1 : (k : Int) ≤ s.size := by omega
    clear hk hbd hpos hfin
    go_enter Tryd.func5, Tryd.ntmps5
    go_wp2_with (first
      | (go_at_call 8; refine (known17_any m _ hm).mono ?_; rintro e w1 ⟨rfl, hb1⟩)
      | (go_at_call 11; (with_reducible refine (kB _).mono ?_); rintro e w2 ⟨rfl, hb2⟩)
      | (go_at_call 16; refine (kC _).mono ?_; rintro e w3 ⟨⟨t, rfl, ht, hbt⟩, hb3⟩; have kT := fun W => knB (s.extract 0 k ++ t) (-1) hbt (by rw [ByteArray.size_append]; omega) W; clear hbt; have hl2 : ¬ 9223372036854775807 < min k s.size - 0 + t.size := (by omega); have hl3 : ¬ 9223372036854775807 < min k s.size + t.size := (by omega))
      | (go_at_call 11; (with_reducible refine (kT _).mono ?_); rintro e w4 ⟨rfl, hb4⟩))
    go_ret
    exact ⟨rfl, bl_any (bl_any (bl_any hb1 hb2) hb3) hb4⟩
theorem wf16 {n : Int} (h : (Lit.int .u16 n).wf = true) : 0 ≤ n ∧ n ≤ 65535 := by
  simp [Lit.wf, IntKind.min, IntKind.max, IntKind.signed, IntKind.bits] at h
  omega
end Go.Proofs.YtdngieihlcknmaaDoor
