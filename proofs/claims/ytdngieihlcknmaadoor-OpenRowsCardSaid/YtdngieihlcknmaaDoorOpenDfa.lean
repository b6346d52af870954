/- The open format's machine of states: what the rows' functions answer is its verdict (no program in sight). -/
import Derived.Test.YtdngieihlcknmaaDoorDropQ
import Derived.Test.YtdngieihlcknmaaDoorOpenF
namespace Go.Proofs.YtdngieihlcknmaaDoor
set_option linter.unusedVariables false
set_option linter.unusedSimpArgs false
open Go.RowKit
inductive TK where
  | t | u | h
inductive OQ where
  | line | h1 | h2 | tY | tP | tE | tS | uN | uI | uT | uS | hE | hL | hP | hS | eO | eF | e1 | e2
  | n0 (k : TK) | n (k : TK) | x0t | xt | x0u | xu | hh | hhE | hhU (u : UQ)
  | sn | g0 | g1 | g | gq | v | vE | vU (u : UQ) | vz | sp
  | d0 (m : Bool) | dN (m : Bool) | di (m : Bool) | dp (m : Bool) | df (m : Bool)
def aftD (m : Bool) (c : Int) : Option OQ := if m = false ∧ c = 32 then some (.d0 true) else if c = 10 then some .line else none
def fstB (p : Int → Bool) (c : Int) : Bool := p c && !digB c
def toldQ : TK → OQ
  | .t => .x0t | .u => .x0u | .h => .hh
def stO : OQ → Int → Option OQ
  | .line, c => if c = 35 then some .h1 else if fstB owName c then some .sn else none
  | .h1, c => if c = 32 then some .h2 else none
  | .h2, c => if c = 84 then some .tY else if c = 85 then some .uN else if c = 72 then some .hE else if c = 69 then some .eO else none
  | .tY, c => if c = 89 then some .tP else none
  | .tP, c => if c = 80 then some .tE else none
  | .tE, c => if c = 69 then some .tS else none
  | .tS, c => if c = 32 then some (.n0 .t) else none
  | .uN, c => if c = 78 then some .uI else none
  | .uI, c => if c = 73 then some .uT else none
  | .uT, c => if c = 84 then some .uS else none
  | .uS, c => if c = 32 then some (.n0 .u) else none
  | .hE, c => if c = 69 then some .hL else none
  | .hL, c => if c = 76 then some .hP else none
  | .hP, c => if c = 80 then some .hS else none
  | .hS, c => if c = 32 then some (.n0 .h) else none
  | .eO, c => if c = 79 then some .eF else none
  | .eF, c => if c = 70 then some .e1 else none
  | .e1, c => if c = 10 then some .e2 else none
  | .e2, _ => none
  | .n0 k, c => if fstB owName c then some (.n k) else none
  | .n k, c => if owName c then some (.n k) else if c = 32 then some (toldQ k) else none
  | .x0t, c => if smB c then some .xt else none
  | .xt, c => if smB c then some .xt else if c = 10 then some .line else none
  | .x0u, c => if owName c then some .xu else none
  | .xu, c => if owName c then some .xu else if c = 10 then some .line else none
  | .hh, c => if c = 10 then some .line else if c = 92 then some .hhE else if c < 128 then some .hh else (uFirst c).map .hhU
  | .hhE, c => if (inH.any fun d => c == d.toNat) = true then some .hh else none
  | .hhU u, c => (uNext u c).map fun o => match o with
    | none => .hh
    | some u' => .hhU u'
  | .sn, c => if owName c then some .sn else if c = 123 then some .g0 else if c = 32 then some (.d0 false) else none
  | .g0, c => if c = 125 then some .sp else if fstB owLabel c then some .g else none
  | .g1, c => if fstB owLabel c then some .g else none
  | .g, c => if owLabel c then some .g else if c = 61 then some .gq else none
  | .gq, c => if c = 34 then some .v else none
  | .v, c => if c = 34 then some .vz else if c = 10 then none else if c = 92 then some .vE else if c < 128 then some .v else (uFirst c).map .vU
  | .vE, c => if (inV.any fun d => c == d.toNat) = true then some .v else none
  | .vU u, c => (uNext u c).map fun o => match o with
    | none => .v
    | some u' => .vU u'
  | .vz, c => if c = 44 then some .g1 else if c = 125 then some .sp else none
  | .sp, c => if c = 32 then some (.d0 false) else none
  | .d0 m, c => if c = 45 then some (.dN m) else if digB c then some (.di m) else none
  | .dN m, c => if digB c then some (.di m) else none
  | .di m, c => if digB c then some (.di m) else if c = 46 then some (.dp m) else aftD m c
  | .dp m, c => if digB c then some (.df m) else none
  | .df m, c => if digB c then some (.df m) else aftD m c
def acO : OQ → Bool
  | .e1 => true
  | .e2 => true
  | _ => false
section
variable {l : List UInt8}
abbrev W (l : List UInt8) (q : OQ) (a : Nat) : Int := vd stO acO l q a
/-- A verdict behind a stage. -/
def Gs (x : Int) (r : Nat × Bool) (y : Nat → Int) : Prop := x = if r.2 = true then (r.1 : Int) else y r.1
theorem Gs.bind {x : Int} {r : Nat × Bool} {y z : Nat → Int} {F : Nat → Bool → Nat × Bool} (h : Gs x r y) (h0 : F r.1 true = (r.1, true)) (h1 : r.2 = false → Gs (y r.1) (F r.1 false) z) : Gs x (F r.1 r.2) z := by
  unfold Gs at h ⊢
  cases hr : r.2
  · rw [hr, if_neg (by simp)] at h
    rw [h]
    exact h1 hr
  · rw [hr, if_pos rfl] at h
    rw [h0, if_pos rfl]; exact h
/-- A fork of one byte, of two. -/
def fk1 (l : List UInt8) (c : Int) (q : OQ) (p : Nat) : Int := if isB l p false c = true then W l q (p + 1) else (p : Int)
def fk2 (l : List UInt8) (c : Int) (q : OQ) (d : Int) (q' : OQ) (p : Nat) : Int := if isB l p false c = true then W l q (p + 1) else fk1 l d q' p
theorem fk1_of {q q' : OQ} {c : Int} {p : Nat} (hac : acO q = false) (h : p < l.length → stO q (bt l p) = if bt l p = c then some q' else none) : W l q p = fk1 l c q' p := by
  unfold fk1
  by_cases hp : p < l.length
  · have h1 := h hp
    cases k : isB l p false c
    · rw [if_neg (isB_f k hp)] at h1
      rw [if_neg (by simp)]
      exact vd_no hp h1
    · rw [if_pos (isB_iff.1 k).2] at h1
      rw [if_pos rfl]
      exact vd_yes hp h1
  · rw [isB_end hp, if_neg (by simp)]
    exact vd_end (by omega) hac
theorem fk2_of {q q1 q2 : OQ} {c d : Int} {p : Nat} (hac : acO q = false) (h : p < l.length → stO q (bt l p) = if bt l p = c then some q1 else if bt l p = d then some q2 else none) : W l q p = fk2 l c q1 d q2 p := by
  unfold fk2 fk1
  by_cases hp : p < l.length
  · have h1 := h hp
    cases k : isB l p false c
    · rw [if_neg (isB_f k hp)] at h1
      rw [if_neg (by simp)]
      cases k2 : isB l p false d
      · rw [if_neg (isB_f k2 hp)] at h1
        rw [if_neg (by simp)]
        exact vd_no hp h1
      · rw [if_pos (isB_iff.1 k2).2] at h1
        rw [if_pos rfl]
        exact vd_yes hp h1
    · rw [if_pos (isB_iff.1 k).2] at h1
      rw [if_pos rfl]
      exact vd_yes hp h1
  · rw [isB_end hp, isB_end hp, if_neg (by simp), if_neg (by simp)]
    exact vd_end (by omega) hac
theorem gs_word1 (c : UInt8) (q : OQ) (p : Nat) : Gs (fk1 l c.toNat q p) (wordS l [c] p false) (W l q) := by
  unfold Gs fk1
  rw [word1]
  cases k : isB l p false c.toNat <;> simp
/-- A name. -/
theorem gs_nm {P : Int → Bool} {q0 q : OQ} {a : Nat} (hac : acO q0 = false) (h0 : a < l.length → stO q0 (bt l a) = if fstB P (bt l a) then some q else none) (h : ∀ c, P c = true → stO q c = some q) : Gs (W l q0 a) (nmS l P a false) (W l q) := by
  unfold Gs nmS
  by_cases ha : a < l.length
  · rw [pkB_bt ha, Bool.true_and, Bool.false_or]
    have h1 := h0 ha
    unfold fstB at h1
    cases hd : digB (bt l a)
    · rw [hd] at h1
      simp only [Bool.not_false, Bool.and_true] at h1
      exact vd_some hac (fun _ hp => by rw [h1, if_pos hp]) (fun _ hp => by rw [h1, if_neg (by rw [hp]; simp)]) h
    · rw [hd] at h1
      simp only [Bool.not_true, Bool.and_false, Bool.false_eq_true, if_false] at h1
      unfold someS
      rw [if_pos rfl, if_pos rfl]
      exact vd_no ha h1
  · rw [pkB_end (by omega)]
    exact vd_some hac (fun h => absurd h ha) (fun h => absurd h ha) h
theorem nm_stop {P : Int → Bool} {a : Nat} (h : (nmS l P a false).2 = false) (h2 : (nmS l P a false).1 < l.length) : P (bt l (nmS l P a false).1) = false := by
  unfold nmS at h h2 ⊢
  cases k : (false || (pkB l a false && digB (bt l a)))
  · rw [k] at h2; exact someS_stop h2
  · rw [k] at h; simp [someS] at h
theorem gs_then {x : Int} {r : Nat × Bool} {y z : Nat → Int} (h : Gs x r y) (h1 : r.2 = false → y r.1 = z r.1) : Gs x r z := by
  unfold Gs at h ⊢
  cases hr : r.2
  · rw [hr, if_neg (by simp)] at h; rw [if_neg (by simp), h, h1 hr]
  · rw [hr, if_pos rfl] at h; rw [if_pos rfl, h]
theorem gs_nm1 {P : Int → Bool} {q0 q q' : OQ} {c : Int} {a : Nat} (hac : acO q0 = false) (hac2 : acO q = false) (h0 : a < l.length → stO q0 (bt l a) = if fstB P (bt l a) then some q else none) (h : ∀ d, stO q d = if P d then some q else if d = c then some q' else none) : Gs (W l q0 a) (nmS l P a false) (fk1 l c q') :=
  gs_then (gs_nm hac h0 (fun d hd => by rw [h, if_pos hd])) (fun hr => fk1_of hac2 (fun hp => by rw [h, if_neg (by rw [nm_stop hr hp]; simp)]))
theorem gs_some1 {P : Int → Bool} {q0 q q' : OQ} {c : Int} {a : Nat} (hac : acO q0 = false) (hac2 : acO q = false) (h0 : ∀ d, stO q0 d = if P d then some q else none) (h : ∀ d, stO q d = if P d then some q else if d = c then some q' else none) : Gs (W l q0 a) (someS l P a false) (fk1 l c q') :=
  gs_then (y := W l q) (vd_some hac (fun _ hp => by rw [h0, if_pos hp]) (fun _ hp => by rw [h0, if_neg (by rw [hp]; simp)]) (fun d hd => by rw [h, if_pos hd])) (fun _ => fk1_of hac2 (fun hp => by rw [h, if_neg (by rw [someS_stop hp]; simp)]))
theorem u_hh : UStep stO acO .hh .hhU := ⟨fun _ _ => rfl, fun _ => rfl⟩
theorem u_v : UStep stO acO .v .vU := ⟨fun _ _ => rfl, fun _ => rfl⟩
theorem ink_stop {e : Int} {m : List UInt8} {n : Int} {a : Nat} (ha : a ≤ l.length) (h : (ink l e m n a false).2.2 = false) : (ink l e m n a false).2.1 < l.length ∧ bt l (ink l e m n a false).2.1 = e := inkS_stop (l.length + 1) a [] ha h
theorem gs_hh {a : Nat} (ha : a ≤ l.length) : Gs (W l .hh a) (ink l 10 inH 110 a false).2 (fk1 l 10 .line) := by
  have hi := vd_ink (l := l) (e := 10) (m := inH) (n := 110) u_hh rfl (show acO .hhE = false from rfl) (fun h => absurd rfl h) (fun _ => rfl) (fun _ => rfl) (fun c h0 h1 h2 h3 h4 => by
    show (if c = 10 then _ else if c = 92 then _ else if c < 128 then _ else _) = _
    rw [if_neg h2, if_neg h4, if_pos h1]) (fun c h0 h1 => by
    show (if c = 10 then _ else if c = 92 then _ else if c < 128 then _ else _) = _
    rw [if_neg h1, if_neg (by omega), if_neg (by omega)]) (l.length + 1) a [] (by omega) ha
  refine gs_then (y := W l .hh) hi (fun hr => ?_)
  obtain ⟨h1, h2⟩ := ink_stop ha hr
  refine fk1_of rfl (fun _ => ?_)
  rw [h2]; rfl
theorem gs_v {a : Nat} (ha : a ≤ l.length) : Gs (W l .v a) (ink l 34 inV 110 a false).2 (fk1 l 34 .vz) := by
  have hi := vd_ink (l := l) (e := 34) (m := inV) (n := 110) u_v rfl (show acO .vE = false from rfl) (fun _ => rfl) (fun _ => rfl) (fun _ => rfl) (fun c h0 h1 h2 h3 h4 => by
    show (if c = 34 then _ else if c = 10 then _ else if c = 92 then _ else if c < 128 then _ else _) = _
    rw [if_neg h2, if_neg h3, if_neg h4, if_pos h1]) (fun c h0 h1 => by
    show (if c = 34 then _ else if c = 10 then _ else if c = 92 then _ else if c < 128 then _ else _) = _
    rw [if_neg h1, if_neg (by omega), if_neg (by omega), if_neg (by omega)]) (l.length + 1) a [] (by omega) ha
  refine gs_then (y := W l .v) hi (fun hr => ?_)
  obtain ⟨h1, h2⟩ := ink_stop ha hr
  refine fk1_of rfl (fun _ => ?_)
  rw [h2]; rfl
theorem nm_no (P : Int → Bool) (a : Nat) : nmS l P a true = (a, true) := by simp [nmS, someS]
theorem ink_no (e : Int) (m : List UInt8) (n : Int) (a : Nat) : (ink l e m n a true).2 = (a, true) := by simp [ink]
theorem dec_no (a : Nat) : decS l a true = (a, true) := by simp [decS, numS]
/-- A number's text. -/
def aftV (l : List UInt8) (m : Bool) (p : Nat) : Int := if m = false ∧ isB l p false 32 = true then W l (.d0 true) (p + 1) else fk1 l 10 .line p
theorem aft_of {q : OQ} {m : Bool} {p : Nat} (hac : acO q = false) (h : p < l.length → stO q (bt l p) = aftD m (bt l p)) : W l q p = aftV l m p := by
  unfold aftV
  cases m
  · have := fk2_of (l := l) (q := q) (q1 := .d0 true) (q2 := .line) (c := 32) (d := 10) hac (fun hp => by rw [h hp]; unfold aftD; simp)
    rw [this]; unfold fk2; simp
  · rw [if_neg (by simp)]
    exact fk1_of hac (fun hp => by rw [h hp]; unfold aftD; simp)
theorem gs_num {m : Bool} {a : Nat} : Gs (W l (.d0 m) a) (numS l a false) (W l (.di m)) := by
  unfold numS takeA
  rw [if_neg (by simp)]
  cases k4 : isB l a false 45
  · rw [if_neg (by simp)]
    exact vd_some rfl (fun hl h => by
      have := digB_iff.1 h
      show (if bt l a = 45 then _ else if digB (bt l a) = true then _ else _) = _
      rw [if_neg (by omega), if_pos h]) (fun hl h => by
      show (if bt l a = 45 then _ else if digB (bt l a) = true then _ else _) = _
      rw [if_neg (isB_f k4 hl), if_neg (by rw [h]; simp)]) (fun c h => by show (if _ then _ else _) = _; rw [if_pos h])
  · have hk := isB_iff.1 k4
    rw [if_pos rfl]
    have hv5 : W l (.d0 m) a = W l (.dN m) (a + 1) := vd_yes hk.1 (by rw [hk.2]; rfl)
    unfold Gs
    rw [hv5]
    exact vd_some rfl (fun hl h => by show (if _ then _ else _) = _; rw [if_pos h]) (fun hl h => by show (if _ then _ else _) = _; rw [if_neg (by rw [h]; simp)]) (fun c h => by show (if _ then _ else _) = _; rw [if_pos h])
theorem num_stop {a : Nat} (h : (numS l a false).1 < l.length) : digB (bt l (numS l a false).1) = false := by
  unfold numS at h ⊢
  rw [if_neg (by simp)] at h ⊢
  exact someS_stop h
theorem gs_dec {m : Bool} {a : Nat} : Gs (W l (.d0 m) a) (decS l a false) (aftV l m) := by
  have h := gs_num (l := l) (m := m) (a := a)
  have hs := num_stop (l := l) (a := a)
  unfold decS
  generalize numS l a false = r at h hs ⊢
  obtain ⟨p, np⟩ := r
  unfold Gs at h
  simp only at h hs ⊢
  cases np
  · rw [if_neg (by simp)] at h ⊢
    cases k : isB l p false 46
    · rw [if_neg (by simp)]
      unfold Gs
      rw [if_neg (by simp), h]
      refine aft_of rfl (fun hp => ?_)
      show (if digB _ = true then _ else if _ = 46 then _ else _) = _
      rw [if_neg (by rw [hs hp]; simp), if_neg (isB_f k hp)]
    · have hk := isB_iff.1 k
      rw [if_pos rfl]
      have h5 : W l (.di m) p = W l (.dp m) (p + 1) := vd_yes hk.1 (by
        rw [hk.2]; rfl)
      rw [h, h5]
      refine gs_then (y := W l (.df m)) (vd_some rfl (fun hl h => by show (if _ then _ else _) = _; rw [if_pos h]) (fun hl h => by show (if _ then _ else _) = _; rw [if_neg (by rw [h]; simp)]) (fun c h => by show (if _ then _ else _) = _; rw [if_pos h])) (fun _ => ?_)
      refine aft_of rfl (fun hp => ?_)
      show (if digB _ = true then _ else _) = _
      rw [if_neg (by rw [someS_stop hp]; simp)]
  · rw [if_pos rfl] at h ⊢
    unfold Gs
    rw [if_pos rfl]; exact h
end
end Go.Proofs.YtdngieihlcknmaaDoor
