/- A machine of states over a text's bytes: stages, forks, numbers, for any machine (no program in sight). -/
import Derived.Test.YtodgfapgmmjpcaaGreatDoorLineDfa
namespace Go.Proofs.YtodgfapgmmjpcaaGreatDoor
set_option linter.unusedVariables false
set_option linter.unusedSimpArgs false
open Go.RowKit
section
variable {Q : Type} {st : Q → Int → Option Q} {ac : Q → Bool} {l : List UInt8}
/-- A verdict behind a stage. -/
def GG (x : Int) (r : Nat × Bool) (y : Nat → Int) : Prop := x = if r.2 = true then (r.1 : Int) else y r.1
theorem GG.bind {x : Int} {r : Nat × Bool} {y z : Nat → Int} {F : Nat → Bool → Nat × Bool} (h : GG x r y) (h0 : F r.1 true = (r.1, true)) (h1 : r.2 = false → GG (y r.1) (F r.1 false) z) : GG x (F r.1 r.2) z := by
  unfold GG at h ⊢
  cases hr : r.2
  · rw [hr, if_neg (by simp)] at h
    rw [h]
    exact h1 hr
  · rw [hr, if_pos rfl] at h
    rw [h0, if_pos rfl]; exact h
theorem GG.then_ {x : Int} {r : Nat × Bool} {y z : Nat → Int} (h : GG x r y) (h1 : r.2 = false → y r.1 = z r.1) : GG x r z := by
  unfold GG at h ⊢
  cases hr : r.2
  · rw [hr, if_neg (by simp)] at h; rw [if_neg (by simp), h, h1 hr]
  · rw [hr, if_pos rfl] at h; rw [if_pos rfl, h]
/-- A fork of one byte, of two. -/
def gf1 (st : Q → Int → Option Q) (ac : Q → Bool) (l : List UInt8) (c : Int) (q : Q) (p : Nat) : Int := if isB l p false c = true then vd st ac l q (p + 1) else (p : Int)
def gf2 (st : Q → Int → Option Q) (ac : Q → Bool) (l : List UInt8) (c : Int) (q : Q) (d : Int) (q' : Q) (p : Nat) : Int := if isB l p false c = true then vd st ac l q (p + 1) else gf1 st ac l d q' p
theorem gf1_of {q q' : Q} {c : Int} {p : Nat} (hac : ac q = false) (h : p < l.length → st q (bt l p) = if bt l p = c then some q' else none) : vd st ac l q p = gf1 st ac l c q' p := by
  unfold gf1
  by_cases hp : p < l.length
  · have h1 := h hp
    cases k : isB l p false c
    · rw [if_neg (isB_f k hp)] at h1
      rw [if_neg (by simp)]
      exact vd_no hp h1
    · rw [if_pos (isB_iff.1 k).2] at h1
      rw [if_pos rfl]
      exact vd_yes hp h1
  · rw [isB_end hp, if_neg (by simp)]
    exact vd_end (by omega) hac
theorem gf2_of {q q1 q2 : Q} {c d : Int} {p : Nat} (hac : ac q = false) (h : p < l.length → st q (bt l p) = if bt l p = c then some q1 else if bt l p = d then some q2 else none) : vd st ac l q p = gf2 st ac l c q1 d q2 p := by
  unfold gf2 gf1
  by_cases hp : p < l.length
  · have h1 := h hp
    cases k : isB l p false c
    · rw [if_neg (isB_f k hp)] at h1
      rw [if_neg (by simp)]
      cases k2 : isB l p false d
      · rw [if_neg (isB_f k2 hp)] at h1
        rw [if_neg (by simp)]
        exact vd_no hp h1
      · rw [if_pos (isB_iff.1 k2).2] at h1
        rw [if_pos rfl]
        exact vd_yes hp h1
    · rw [if_pos (isB_iff.1 k).2] at h1
      rw [if_pos rfl]
      exact vd_yes hp h1
  · rw [isB_end hp, isB_end hp, if_neg (by simp), if_neg (by simp)]
    exact vd_end (by omega) hac
theorem gg_word1 (c : UInt8) (q : Q) (p : Nat) : GG (gf1 st ac l c.toNat q p) (wordS l [c] p false) (vd st ac l q) := by
  unfold GG gf1
  rw [word1]
  cases k : isB l p false c.toNat <;> simp
theorem gg_some {P : Int → Bool} {q0 q : Q} {a : Nat} (hac : ac q0 = false) (h0 : a < l.length → st q0 (bt l a) = if P (bt l a) then some q else none) (h : ∀ d, P d = true → st q d = some q) : GG (vd st ac l q0 a) (someS l P a false) (vd st ac l q) :=
  vd_some hac (fun hl hp => by rw [h0 hl, if_pos hp]) (fun hl hp => by rw [h0 hl, if_neg (by rw [hp]; simp)]) h
/-- Bytes of a class, then one byte. -/
theorem gg_some1 {P : Int → Bool} {q0 q q' : Q} {c : Int} {a : Nat} (hac : ac q0 = false) (hac2 : ac q = false) (h0 : a < l.length → st q0 (bt l a) = if P (bt l a) then some q else none) (h : ∀ d, st q d = if P d then some q else if d = c then some q' else none) : GG (vd st ac l q0 a) (someS l P a false) (gf1 st ac l c q') :=
  (gg_some hac h0 (fun d hd => by rw [h, if_pos hd])).then_ (fun _ => gf1_of hac2 (fun hp => by rw [h, if_neg (by rw [someS_stop hp]; simp)]))
/-- .., then one of two. -/
theorem gg_some2 {P : Int → Bool} {q0 q q1 q2 : Q} {c d : Int} {a : Nat} (hac : ac q0 = false) (hac2 : ac q = false) (h0 : a < l.length → st q0 (bt l a) = if P (bt l a) then some q else none) (h : ∀ x, st q x = if P x then some q else if x = c then some q1 else if x = d then some q2 else none) : GG (vd st ac l q0 a) (someS l P a false) (gf2 st ac l c q1 d q2) :=
  (gg_some hac h0 (fun d hd => by rw [h, if_pos hd])).then_ (fun _ => gf2_of hac2 (fun hp => by rw [h, if_neg (by rw [someS_stop hp]; simp)]))
/-- A whole number. -/
theorem gg_num {d0 dN di : Q} {a : Nat} (h1 : ac d0 = false) (h2 : ac dN = false) (h3 : ∀ c, st d0 c = if c = 45 then some dN else if digB c then some di else none) (h4 : ∀ c, st dN c = if digB c then some di else none) (h5 : ∀ c, digB c = true → st di c = some di) : GG (vd st ac l d0 a) (numS l a false) (vd st ac l di) := by
  unfold numS takeA
  rw [if_neg (by simp)]
  cases k4 : isB l a false 45
  · rw [if_neg (by simp)]
    exact vd_some h1 (fun hl h => by
      have := digB_iff.1 h
      rw [h3, if_neg (by omega), if_pos h]) (fun hl h => by
      rw [h3, if_neg (isB_f k4 hl), if_neg (by rw [h]; simp)]) h5
  · have hk := isB_iff.1 k4
    rw [if_pos rfl]
    have hv5 : vd st ac l d0 a = vd st ac l dN (a + 1) := vd_yes hk.1 (by rw [h3, hk.2]; rfl)
    unfold GG
    rw [hv5]
    exact vd_some h2 (fun hl h => by rw [h4, if_pos h]) (fun hl h => by rw [h4, if_neg (by rw [h]; simp)]) h5
theorem num_stopG {a : Nat} (h : (numS l a false).1 < l.length) : digB (bt l (numS l a false).1) = false := by
  unfold numS at h ⊢
  rw [if_neg (by simp)] at h ⊢
  exact someS_stop h
/-- A decimal, and what stands behind it. -/
theorem gg_dec {d0 dN di dp df : Q} {y : Nat → Int} {a : Nat} (h1 : ac d0 = false) (h2 : ac dN = false) (h3 : ∀ c, st d0 c = if c = 45 then some dN else if digB c then some di else none) (h4 : ∀ c, st dN c = if digB c then some di else none) (h5 : ∀ c, digB c = true → st di c = some di) (h6 : st di 46 = some dp) (h7 : ac dp = false) (h8 : ∀ c, st dp c = if digB c then some df else none) (h9 : ∀ c, digB c = true → st df c = some df)
    (hi : ∀ p, (p < l.length → digB (bt l p) = false ∧ bt l p ≠ 46) → vd st ac l di p = y p) (hf : ∀ p, (p < l.length → digB (bt l p) = false) → vd st ac l df p = y p) : GG (vd st ac l d0 a) (decS l a false) y := by
  have h := gg_num (l := l) (st := st) (ac := ac) (a := a) h1 h2 h3 h4 h5
  have hs := num_stopG (l := l) (a := a)
  unfold decS
  generalize numS l a false = r at h hs ⊢
  obtain ⟨p, np⟩ := r
  unfold GG at h
  simp only at h hs ⊢
  cases np
  · rw [if_neg (by simp)] at h ⊢
    cases k : isB l p false 46
    · rw [if_neg (by simp)]
      unfold GG
      rw [if_neg (by simp), h]
      exact hi p (fun hp => ⟨hs hp, isB_f k hp⟩)
    · have hk := isB_iff.1 k
      rw [if_pos rfl]
      have h5 : vd st ac l di p = vd st ac l dp (p + 1) := vd_yes hk.1 (by
        rw [hk.2]; exact h6)
      rw [h, h5]
      refine GG.then_ (y := vd st ac l df) (vd_some h7 (fun hl h => by rw [h8, if_pos h]) (fun hl h => by rw [h8, if_neg (by rw [h]; simp)]) h9) (fun _ => ?_)
      exact hf _ (fun hp => someS_stop hp)
  · rw [if_pos rfl] at h ⊢
    unfold GG
    rw [if_pos rfl]; exact h
theorem dec_noG (a : Nat) : decS l a true = (a, true) := by simp [decS, numS]
theorem some_noG (P : Int → Bool) (a : Nat) : someS l P a true = (a, true) := by simp [someS]
end
end Go.Proofs.YtodgfapgmmjpcaaGreatDoor
