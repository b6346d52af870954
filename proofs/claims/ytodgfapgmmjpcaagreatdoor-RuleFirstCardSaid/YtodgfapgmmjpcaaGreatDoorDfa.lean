/- A text judged by a machine of states over its bytes: how far it can go; what hangs on its beginning alone; the scanner's words as ways through such a machine (no program in sight). -/
import Derived.Test.YtodgfapgmmjpcaaGreatDoorScanDef
namespace Go.Proofs.YtodgfapgmmjpcaaGreatDoor
set_option linter.unusedVariables false
set_option linter.unusedSimpArgs false
open Go.RowKit
def vdGo {Q : Type} (st : Q → Int → Option Q) (ac : Q → Bool) : Q → List UInt8 → Nat → Int
  | q, [], k => if ac q then -1 else k
  | q, c :: cs, k => match st q c.toNat with
    | none => k
    | some q' => vdGo st ac q' cs (k + 1)
section
variable {Q : Type} {st : Q → Int → Option Q} {ac : Q → Bool}
theorem vdGo_bd : ∀ (l : List UInt8) (q : Q) (k : Nat), vdGo st ac q l k = -1 ∨ ((k : Int) ≤ vdGo st ac q l k ∧ vdGo st ac q l k ≤ k + l.length)
  | [], q, k => by unfold vdGo; cases ac q <;> simp
  | c :: cs, q, k => by
    unfold vdGo
    cases h : st q c.toNat with
    | none => right; simp; omega
    | some q' =>
      have := vdGo_bd cs q' (k + 1)
      simp only [List.length_cons]
      omega
theorem vdGo_far : ∀ (l : List UInt8) (q : Q) (b k : Nat), vdGo st ac q l b = (k : Int) → k < b + l.length → ∀ e, vdGo st ac q (l.take (k + 1 - b) ++ e) b = k
  | [], q, b, k, h, h2, e => by
    exfalso
    have := vdGo_bd (st := st) (ac := ac) [] q b
    simp at this h2
    omega
  | c :: cs, q, b, k, h, h2, e => by
    unfold vdGo at h
    have hb : b ≤ k := by
      have := vdGo_bd (st := st) (ac := ac) (c :: cs) q b
      unfold vdGo at this
      omega
    rw [show k + 1 - b = (k - b) + 1 by omega, List.take_succ_cons, List.cons_append]
    unfold vdGo
    cases hs : st q c.toNat with
    | none => rw [hs] at h; exact h
    | some q' =>
      rw [hs] at h
      have hb2 : b + 1 ≤ k := by
        have := vdGo_bd (st := st) (ac := ac) cs q' (b + 1)
        simp only at h
        omega
      have := vdGo_far cs q' (b + 1) k h (by simp only [List.length_cons] at h2; omega) e
      rw [show k + 1 - (b + 1) = k - b by omega] at this
      exact this
theorem vdGo_reach : ∀ (n : Nat) (l : List UInt8) (q : Q) (b : Nat), n ≤ l.length → (vdGo st ac q l b = -1 ∨ ((b + n : Nat) : Int) ≤ vdGo st ac q l b) → ∃ q', (∀ t, vdGo st ac q (l.take n ++ t) b = vdGo st ac q' t (b + n)) ∧ vdGo st ac q l b = vdGo st ac q' (l.drop n) (b + n)
  | 0, l, q, b, _, _ => ⟨q, fun t => by simp, by simp⟩
  | n + 1, [], q, b, h, _ => by simp at h
  | n + 1, c :: cs, q, b, h, h2 => by
    unfold vdGo at h2
    cases hs : st q c.toNat with
    | none => rw [hs] at h2; simp only at h2; omega
    | some q' =>
      rw [hs] at h2
      obtain ⟨q2, hq, hq2⟩ := vdGo_reach n cs q' (b + 1) (by simpa using h) (by simp only at h2; omega)
      refine ⟨q2, fun t => ?_, ?_⟩
      · rw [List.take_succ_cons, List.cons_append]
        conv => lhs; unfold vdGo
        rw [hs]
        simp only
        rw [hq t, show b + 1 + n = b + (n + 1) by omega]
      · conv => lhs; unfold vdGo
        rw [hs]
        simp only
        rw [hq2, List.drop_succ_cons, show b + 1 + n = b + (n + 1) by omega]
theorem vdGo_pre (l : List UInt8) (q : Q) (k : Nat) (h : vdGo st ac q l 0 = (k : Int)) : vdGo st ac q (l.take k) 0 = k ∨ vdGo st ac q (l.take k) 0 = -1 := by
  have hb := vdGo_bd (st := st) (ac := ac) l q 0
  obtain ⟨q', hq, _⟩ := vdGo_reach (st := st) (ac := ac) k l q 0 (by omega) (by right; omega)
  have := hq []
  rw [List.append_nil] at this
  rw [this]
  unfold vdGo
  cases ac q' <;> simp
theorem vdGo_app (l : List UInt8) (q : Q) (h : vdGo st ac q l 0 = -1) : ∃ q', ac q' = true ∧ ∀ t, vdGo st ac q (l ++ t) 0 = vdGo st ac q' t l.length := by
  obtain ⟨q', hq, hq2⟩ := vdGo_reach (st := st) (ac := ac) l.length l q 0 (Nat.le_refl _) (.inl h)
  rw [List.take_length] at hq
  rw [List.drop_length, h] at hq2
  refine ⟨q', ?_, fun t => by rw [hq t, Nat.zero_add]⟩
  unfold vdGo at hq2
  cases hc : ac q'
  · rw [hc] at hq2; simp only [Bool.false_eq_true, if_false] at hq2; omega
  · rfl
theorem vdGo_neg : ∀ (l : List UInt8) (q : Q) (b b' : Nat), vdGo st ac q l b = -1 → vdGo st ac q l b' = -1
  | [], q, b, b', h => by
    unfold vdGo at h ⊢
    cases hc : ac q
    · rw [hc] at h; simp only [Bool.false_eq_true, if_false] at h; omega
    · rfl
  | c :: cs, q, b, b', h => by
    unfold vdGo at h ⊢
    cases hs : st q c.toNat with
    | none => rw [hs] at h; simp only at h; omega
    | some q' => rw [hs] at h; exact vdGo_neg cs q' _ _ h
variable {l : List UInt8}
/-- The verdict from a state at a place. -/
def vd (st : Q → Int → Option Q) (ac : Q → Bool) (l : List UInt8) (q : Q) (a : Nat) : Int := vdGo st ac q (l.drop a) a
theorem vd_yes {q q' : Q} {a : Nat} (h : a < l.length) (k : st q (bt l a) = some q') : vd st ac l q a = vd st ac l q' (a + 1) := by
  unfold vd
  rw [List.drop_eq_getElem_cons h]
  conv => lhs; unfold vdGo
  rw [← bt_get h, k]
theorem vd_no {q : Q} {a : Nat} (h : a < l.length) (k : st q (bt l a) = none) : vd st ac l q a = a := by
  unfold vd
  rw [List.drop_eq_getElem_cons h]
  conv => lhs; unfold vdGo
  rw [← bt_get h, k]
theorem vd_end {q : Q} {a : Nat} (h : l.length ≤ a) (k : ac q = false) : vd st ac l q a = a := by
  unfold vd
  rw [List.drop_of_length_le h]
  unfold vdGo
  rw [k]; rfl
theorem vd_acc {q : Q} {a : Nat} (h : l.length ≤ a) (k : ac q = true) : vd st ac l q a = -1 := by
  unfold vd
  rw [List.drop_of_length_le h]
  unfold vdGo
  rw [k]; rfl
/-- One byte that must be. -/
theorem vd_byte {q q' : Q} {c : Int} (hac : ac q = false) (hy : st q c = some q') (hn : ∀ d, d ≠ c → st q d = none) (a : Nat) : vd st ac l q a = if isB l a false c then vd st ac l q' (a + 1) else (a : Int) := by
  by_cases h : a < l.length
  · by_cases e : bt l a = c
    · have : isB l a false c = true := by simp [isB, pkB, h, e]
      rw [this, if_pos rfl]
      exact vd_yes h (by rw [e]; exact hy)
    · have : isB l a false c = false := by simp [isB, e]
      rw [this]
      exact vd_no h (hn _ e)
  · have : isB l a false c = false := by simp [isB, pkB, h]
    rw [this]
    exact vd_end (by omega) hac
end
inductive UQ where
  | u1 | u2 | u3 | e0 | ed | f0 | f4
def uFirst (c : Int) : Option UQ :=
  if c < 194 then none else if c < 224 then some .u1 else if c = 224 then some .e0 else if c = 237 then some .ed else if c < 240 then some .u2 else if c = 240 then some .f0 else if c < 244 then some .u3 else if c = 244 then some .f4 else none
def uNext : UQ → Int → Option (Option UQ)
  | .u1, c => if 128 ≤ c ∧ c ≤ 191 then some none else none
  | .u2, c => if 128 ≤ c ∧ c ≤ 191 then some (some .u1) else none
  | .u3, c => if 128 ≤ c ∧ c ≤ 191 then some (some .u2) else none
  | .e0, c => if 160 ≤ c ∧ c ≤ 191 then some (some .u1) else none
  | .ed, c => if 128 ≤ c ∧ c ≤ 159 then some (some .u1) else none
  | .f0, c => if 144 ≤ c ∧ c ≤ 191 then some (some .u2) else none
  | .f4, c => if 128 ≤ c ∧ c ≤ 143 then some (some .u2) else none
section
variable {Q : Type} {st : Q → Int → Option Q} {ac : Q → Bool} {l : List UInt8}
structure UStep (st : Q → Int → Option Q) (ac : Q → Bool) (T : Q) (TU : UQ → Q) : Prop where
  next : ∀ u c, st (TU u) c = (uNext u c).map fun o => match o with
    | none => T
    | some u' => TU u'
  acc : ∀ u, ac (TU u) = false
theorem vd_u {T T' : Q} {TU : UQ → Q} (h : UStep st ac T TU) (u : UQ) (lo hi : Int) (he : uNext u = fun c => if lo ≤ c ∧ c ≤ hi then some (match u with | .u1 => none | .u2 => some .u1 | .u3 => some .u2 | .e0 => some .u1 | .ed => some .u1 | .f0 => some .u2 | .f4 => some .u2) else none)
    (hT : T' = match u with | .u1 => T | .u2 => TU .u1 | .u3 => TU .u2 | .e0 => TU .u1 | .ed => TU .u1 | .f0 => TU .u2 | .f4 => TU .u2) (p : Nat) :
    vd st ac l (TU u) p = if p < l.length ∧ lo ≤ bt l p ∧ bt l p ≤ hi then vd st ac l T' (p + 1) else (p : Int) := by
  by_cases hp : p < l.length
  · by_cases hb : lo ≤ bt l p ∧ bt l p ≤ hi
    · rw [if_pos ⟨hp, hb⟩]
      refine vd_yes hp ?_
      rw [h.next, he]
      simp only
      rw [if_pos hb, hT]
      cases u <;> rfl
    · rw [if_neg (fun x => hb x.2)]
      refine vd_no hp ?_
      rw [h.next, he]
      simp only
      rw [if_neg hb]; rfl
  · rw [if_neg (fun x => hp x.1)]
    exact vd_end (by omega) (h.acc u)
theorem frGo2 (l : List UInt8) (a : Nat) : frGo l a 2 4 1 = if tailB l a 1 = true then (2, true) else (1, false) := by
  simp [frGo]
theorem frGo3 (l : List UInt8) (a : Nat) : frGo l a 3 4 1 = if tailB l a 1 = true then (if tailB l a 2 = true then (3, true) else (2, false)) else (1, false) := by
  simp [frGo]
theorem frGo4 (l : List UInt8) (a : Nat) : frGo l a 4 4 1 = if tailB l a 1 = true then (if tailB l a 2 = true then (if tailB l a 3 = true then (4, true) else (3, false)) else (2, false)) else (1, false) := by
  simp [frGo]
theorem tailB_iff (l : List UInt8) (a k : Nat) : tailB l a k = true ↔ a + k < l.length ∧ kLo (bt l a) k ≤ bt l (a + k) ∧ bt l (a + k) ≤ kHi (bt l a) k := by
  simp [tailB]
theorem ite_vd (b : Bool) {x : Int} {y : Int} {n : Nat} {a : Nat} {V : Nat → Int} (hb : b = true → x = V (a + n)) (hc : b = false → y = ((a + n : Nat) : Int)) : (if b = true then x else y) = if (n, b).2 = true then V (a + (n, b).1) else ((a + (n, b).1 : Nat) : Int) := by
  cases b
  · simpa using hc rfl
  · simpa using hb rfl
theorem vd_f2 {T X : Q} {a : Nat} {lo hi : Int} (g : ∀ p, vd st ac l X p = if p < l.length ∧ lo ≤ bt l p ∧ bt l p ≤ hi then vd st ac l T (p + 1) else (p : Int)) (hlo : uLo (bt l a) = lo) (hhi : uHi (bt l a) = hi) :
    vd st ac l X (a + 1) = if (frGo l a 2 4 1).2 = true then vd st ac l T (a + (frGo l a 2 4 1).1) else ((a + (frGo l a 2 4 1).1 : Nat) : Int) := by
  have t1 := tailB_iff l a 1
  simp only [kLo, kHi, if_true, hlo, hhi] at t1
  rw [frGo2, g]
  by_cases e1 : tailB l a 1 = true
  · rw [if_pos (t1.1 e1), if_pos e1]; simp
  · rw [if_neg (fun x => e1 (t1.2 x)), if_neg e1]; simp
theorem vd_f3 {T X Y : Q} {a : Nat} {lo hi : Int} (g : ∀ p, vd st ac l X p = if p < l.length ∧ lo ≤ bt l p ∧ bt l p ≤ hi then vd st ac l Y (p + 1) else (p : Int)) (gy : ∀ p, vd st ac l Y p = if p < l.length ∧ 128 ≤ bt l p ∧ bt l p ≤ 191 then vd st ac l T (p + 1) else (p : Int)) (hlo : uLo (bt l a) = lo) (hhi : uHi (bt l a) = hi) :
    vd st ac l X (a + 1) = if (frGo l a 3 4 1).2 = true then vd st ac l T (a + (frGo l a 3 4 1).1) else ((a + (frGo l a 3 4 1).1 : Nat) : Int) := by
  have t1 := tailB_iff l a 1
  have t2 := tailB_iff l a 2
  simp only [kLo, kHi, if_true, hlo, hhi, show ¬ (2 = 1) by decide, if_false] at t1 t2
  rw [frGo3, g]
  by_cases e1 : tailB l a 1 = true
  · rw [if_pos (t1.1 e1), if_pos e1, gy]
    by_cases e2 : tailB l a 2 = true
    · rw [if_pos (t2.1 e2), if_pos e2]; simp
    · rw [if_neg (fun x => e2 (t2.2 x)), if_neg e2]; simp; omega
  · rw [if_neg (fun x => e1 (t1.2 x)), if_neg e1]; simp
theorem vd_f4 {T X Y Z : Q} {a : Nat} {lo hi : Int} (g : ∀ p, vd st ac l X p = if p < l.length ∧ lo ≤ bt l p ∧ bt l p ≤ hi then vd st ac l Y (p + 1) else (p : Int)) (gy : ∀ p, vd st ac l Y p = if p < l.length ∧ 128 ≤ bt l p ∧ bt l p ≤ 191 then vd st ac l Z (p + 1) else (p : Int)) (gz : ∀ p, vd st ac l Z p = if p < l.length ∧ 128 ≤ bt l p ∧ bt l p ≤ 191 then vd st ac l T (p + 1) else (p : Int)) (hlo : uLo (bt l a) = lo) (hhi : uHi (bt l a) = hi) :
    vd st ac l X (a + 1) = if (frGo l a 4 4 1).2 = true then vd st ac l T (a + (frGo l a 4 4 1).1) else ((a + (frGo l a 4 4 1).1 : Nat) : Int) := by
  have t1 := tailB_iff l a 1
  have t2 := tailB_iff l a 2
  have t3 := tailB_iff l a 3
  simp only [kLo, kHi, if_true, hlo, hhi, show ¬ (2 = 1) by decide, show ¬ (3 = 1) by decide, if_false] at t1 t2 t3
  rw [frGo4, g]
  by_cases e1 : tailB l a 1 = true
  · rw [if_pos (t1.1 e1), if_pos e1, gy]
    by_cases e2 : tailB l a 2 = true
    · rw [if_pos (t2.1 e2), if_pos e2, gz]
      by_cases e3 : tailB l a 3 = true
      · rw [if_pos (t3.1 e3), if_pos e3]; simp
      · rw [if_neg (fun x => e3 (t3.2 x)), if_neg e3]; simp; omega
    · rw [if_neg (fun x => e2 (t2.2 x)), if_neg e2]; simp; omega
  · rw [if_neg (fun x => e1 (t1.2 x)), if_neg e1]; simp
theorem vd_front {T : Q} {T0 : Q} {TU : UQ → Q} (h : UStep st ac T TU) {a : Nat} (ha : a < l.length) (hc : 128 ≤ bt l a) (h0 : st T0 (bt l a) = (uFirst (bt l a)).map TU) :
    vd st ac l T0 a = if (frontU l a).2 = true then vd st ac l T (a + (frontU l a).1) else ((a + (frontU l a).1 : Nat) : Int) := by
  have g1 := fun p => vd_u (l := l) (T' := T) h .u1 128 191 (by funext c; rfl) rfl p
  have g2 := fun p => vd_u (l := l) (T' := TU .u1) h .u2 128 191 (by funext c; rfl) rfl p
  have g3 := fun p => vd_u (l := l) (T' := TU .u2) h .u3 128 191 (by funext c; rfl) rfl p
  have g4 := fun p => vd_u (l := l) (T' := TU .u1) h .e0 160 191 (by funext c; rfl) rfl p
  have g5 := fun p => vd_u (l := l) (T' := TU .u1) h .ed 128 159 (by funext c; rfl) rfl p
  have g6 := fun p => vd_u (l := l) (T' := TU .u2) h .f0 144 191 (by funext c; rfl) rfl p
  have g7 := fun p => vd_u (l := l) (T' := TU .u2) h .f4 128 143 (by funext c; rfl) rfl p
  have key : ∀ (n : Nat) (x : Option UQ), uSize (bt l a) = n → uFirst (bt l a) = x → (n = 0 → x = none) → (n ≠ 0 → ∃ u, x = some u ∧ vd st ac l (TU u) (a + 1) = if (frGo l a n 4 1).2 = true then vd st ac l T (a + (frGo l a n 4 1).1) else ((a + (frGo l a n 4 1).1 : Nat) : Int)) →
      vd st ac l T0 a = if (frontU l a).2 = true then vd st ac l T (a + (frontU l a).1) else ((a + (frontU l a).1 : Nat) : Int) := by
    intro n x e1 e2 z1 z2
    unfold frontU
    rw [e1]
    by_cases hn : n = 0
    · rw [if_pos hn, vd_no ha (by rw [h0, e2, z1 hn]; rfl)]; simp
    · rw [if_neg hn]
      obtain ⟨u, rfl, hu⟩ := z2 hn
      rw [← hu]
      exact vd_yes ha (by rw [h0, e2]; rfl)
  have hmax := bt_le l a
  by_cases k1 : bt l a < 194
  · exact key 0 none (by unfold uSize; rw [if_neg (by omega), if_pos k1]) (by unfold uFirst; rw [if_pos k1]) (fun _ => rfl) (fun e => absurd rfl e)
  by_cases k2 : bt l a < 224
  · exact key 2 (some .u1) (by unfold uSize; rw [if_neg (by omega), if_neg k1, if_pos k2]) (by unfold uFirst; rw [if_neg k1, if_pos k2]) (fun e => by omega) (fun _ => ⟨_, rfl, vd_f2 g1 (by unfold uLo; rw [if_neg (by omega), if_neg (by omega)]) (by unfold uHi; rw [if_neg (by omega), if_neg (by omega)])⟩)
  by_cases k3 : bt l a < 240
  · have hs : uSize (bt l a) = 3 := by unfold uSize; rw [if_neg (by omega), if_neg k1, if_neg k2, if_pos k3]
    by_cases k4 : bt l a = 224
    · exact key 3 (some .e0) hs (by unfold uFirst; rw [if_neg k1, if_neg k2, if_pos k4]) (fun e => by omega) (fun _ => ⟨_, rfl, vd_f3 g4 g1 (by unfold uLo; rw [if_pos k4]) (by unfold uHi; rw [if_neg (by omega), if_neg (by omega)])⟩)
    by_cases k5 : bt l a = 237
    · exact key 3 (some .ed) hs (by unfold uFirst; rw [if_neg k1, if_neg k2, if_neg k4, if_pos k5]) (fun e => by omega) (fun _ => ⟨_, rfl, vd_f3 g5 g1 (by unfold uLo; rw [if_neg k4, if_neg (by omega)]) (by unfold uHi; rw [if_pos k5])⟩)
    · exact key 3 (some .u2) hs (by unfold uFirst; rw [if_neg k1, if_neg k2, if_neg k4, if_neg k5, if_pos k3]) (fun e => by omega) (fun _ => ⟨_, rfl, vd_f3 g2 g1 (by unfold uLo; rw [if_neg k4, if_neg (by omega)]) (by unfold uHi; rw [if_neg k5, if_neg (by omega)])⟩)
  by_cases k4 : bt l a < 245
  · have hs : uSize (bt l a) = 4 := by unfold uSize; rw [if_neg (by omega), if_neg k1, if_neg k2, if_neg k3, if_pos k4]
    by_cases k5 : bt l a = 240
    · exact key 4 (some .f0) hs (by unfold uFirst; rw [if_neg k1, if_neg k2, if_neg (by omega), if_neg (by omega), if_neg k3, if_pos k5]) (fun e => by omega) (fun _ => ⟨_, rfl, vd_f4 g6 g2 g1 (by unfold uLo; rw [if_neg (by omega), if_pos k5]) (by unfold uHi; rw [if_neg (by omega), if_neg (by omega)])⟩)
    by_cases k6 : bt l a = 244
    · exact key 4 (some .f4) hs (by unfold uFirst; rw [if_neg k1, if_neg k2, if_neg (by omega), if_neg (by omega), if_neg k3, if_neg k5, if_neg (by omega), if_pos k6]) (fun e => by omega) (fun _ => ⟨_, rfl, vd_f4 g7 g2 g1 (by unfold uLo; rw [if_neg (by omega), if_neg k5]) (by unfold uHi; rw [if_neg (by omega), if_pos k6])⟩)
    · exact key 4 (some .u3) hs (by unfold uFirst; rw [if_neg k1, if_neg k2, if_neg (by omega), if_neg (by omega), if_neg k3, if_neg k5, if_pos (by omega)]) (fun e => by omega) (fun _ => ⟨_, rfl, vd_f4 g3 g2 g1 (by unfold uLo; rw [if_neg (by omega), if_neg k5]) (by unfold uHi; rw [if_neg (by omega), if_neg k6])⟩)
  · exact key 0 none (by unfold uSize; rw [if_neg (by omega), if_neg k1, if_neg k2, if_neg k3, if_neg k4]) (by unfold uFirst; rw [if_neg k1, if_neg k2, if_neg (by omega), if_neg (by omega), if_neg k3, if_neg (by omega), if_neg (by omega), if_neg (by omega)]) (fun _ => rfl) (fun e => absurd rfl e)
/-- A word, byte by byte, through states. -/
theorem vd_word : ∀ (w : List UInt8) (qs : List Q) (q q' : Q) (a : Nat), qs.length + 1 = w.length →
    (∀ i (hi : i < w.length), ac ((q :: qs).getD i q) = false ∧ st ((q :: qs).getD i q) (w[i].toNat) = some ((qs ++ [q']).getD i q) ∧ ∀ d : Int, d ≠ w[i].toNat → st ((q :: qs).getD i q) d = none) →
    vd st ac l q a = if (wordS l w a false).2 = true then ((wordS l w a false).1 : Int) else vd st ac l q' (wordS l w a false).1
  | [], qs, q, q', a, hl, _ => by simp at hl
  | c :: cs, qs, q, q', a, hl, h => by
    obtain ⟨h1, h2, h3⟩ := h 0 (by simp)
    simp only [List.getD_cons_zero, List.getElem_cons_zero] at h1 h2 h3
    have hb := vd_byte (l := l) h1 h2 h3 a
    rw [hb]
    unfold wordS
    simp only [Bool.false_eq_true, if_false]
    by_cases hi : isB l a false c.toNat = true
    · rw [if_pos hi, if_pos hi]
      match qs, cs, hl, h with
      | [], [], _, h =>
        simp [wordS]
      | x :: xs, d :: ds, hl, h =>
        have ih := vd_word (d :: ds) xs x q' (a + 1) (by simpa using hl) (fun i hi => by
          obtain ⟨k1, k2, k3⟩ := h (i + 1) (by simpa using hi)
          have e1 : (q :: x :: xs).getD (i + 1) q = (x :: xs).getD i x := by
            rw [List.getD_cons_succ, List.getD_eq_getElem?_getD, List.getD_eq_getElem?_getD]
            have : i < (x :: xs).length := by simp at hl hi ⊢; omega
            rw [List.getElem?_eq_getElem this]; rfl
          have e2 : ((x :: xs) ++ [q']).getD (i + 1) q = (xs ++ [q']).getD i x := by
            rw [List.cons_append, List.getD_cons_succ, List.getD_eq_getElem?_getD, List.getD_eq_getElem?_getD]
            have : i < (xs ++ [q']).length := by simp at hl hi ⊢; omega
            rw [List.getElem?_eq_getElem this]; rfl
          rw [e1] at k1 k2 k3
          rw [e2] at k2
          exact ⟨k1, k2, k3⟩)
        rw [← ih]; rfl
      | [], d :: ds, hl, _ => simp at hl
      | x :: xs, [], hl, _ => simp at hl
    · rw [if_neg hi, if_neg hi]; simp
/-- Bytes of a class, none at least. -/
theorem vd_while {T : Q} {p : Int → Bool} (h : ∀ c, p c = true → st T c = some T) (a : Nat) : vd st ac l T a = vd st ac l T (whA l p a) := by
  have key : ∀ n a, l.length - a ≤ n → vd st ac l T a = vd st ac l T (whA l p a) := by
    intro n
    induction n with
    | zero => intro a ha; rw [whA_end (by omega)]
    | succ n ih =>
      intro a ha
      by_cases hl : a < l.length
      · cases hp : p (bt l a)
        · rw [whA_no hl hp]
        · rw [whA_yes hl hp, vd_yes hl (h _ hp)]
          exact ih (a + 1) (by omega)
      · rw [whA_end (by omega)]
  exact key _ a (Nat.le_refl _)
/-- .. one at least. -/
theorem vd_some {T0 T : Q} {p : Int → Bool} {a : Nat} (h0 : ac T0 = false) (h1 : a < l.length → p (bt l a) = true → st T0 (bt l a) = some T) (h2 : a < l.length → p (bt l a) = false → st T0 (bt l a) = none) (h : ∀ c, p c = true → st T c = some T) :
    vd st ac l T0 a = if (someS l p a false).2 = true then ((someS l p a false).1 : Int) else vd st ac l T (someS l p a false).1 := by
  unfold someS
  simp only [Bool.false_eq_true, if_false]
  by_cases hl : a < l.length
  · cases hp : p (bt l a)
    · rw [whA_no hl hp, vd_no hl (h2 hl hp)]; simp
    · have := (whA_le l p (a + 1) (by omega)).1
      rw [whA_yes hl hp, vd_yes hl (h1 hl hp), vd_while h (a + 1)]
      have e : (whA l p (a + 1) == a) = false := by rw [beq_eq_false_iff_ne]; omega
      rw [e]; simp
  · rw [whA_end (by omega), vd_end (by omega) h0]; simp
theorem whA_stop {p : Int → Bool} : ∀ (n a : Nat), l.length - a ≤ n → whA l p a < l.length → p (bt l (whA l p a)) = false
  | 0, a, hn, h => by
    rw [whA_end (by omega)] at h; omega
  | n + 1, a, hn, h => by
    by_cases hl : a < l.length
    · cases hp : p (bt l a)
      · rw [whA_no hl hp]; exact hp
      · rw [whA_yes hl hp] at h ⊢
        exact whA_stop n (a + 1) (by omega) h
    · rw [whA_end (by omega)] at h; omega
theorem someS_stop {p : Int → Bool} {a : Nat} (h : (someS l p a false).1 < l.length) : p (bt l (someS l p a false).1) = false := whA_stop _ a (Nat.le_refl _) (by simpa [someS] using h)
theorem isB_iff {a : Nat} {c : Int} : isB l a false c = true ↔ a < l.length ∧ bt l a = c := by simp [isB, pkB]
theorem sgnS_stop {m : List UInt8} {wide : Bool} : ∀ f a acc, a ≤ l.length → (sgnS l m wide f a acc).2.2 = false → (sgnS l m wide f a acc).2.1 < l.length →
    ¬ (bt l (sgnS l m wide f a acc).2.1 = 92 ∨ (wide = true ∧ 127 < bt l (sgnS l m wide f a acc).2.1) ∨ (32 < bt l (sgnS l m wide f a acc).2.1 ∧ bt l (sgnS l m wide f a acc).2.1 < 127 ∧ (m.any fun c => bt l (sgnS l m wide f a acc).2.1 == c.toNat) = false))
  | 0, a, acc, _, h, _ => by simp [sgnS] at h
  | f + 1, a, acc, hl, h, h2 => by
    unfold sgnS at h h2 ⊢
    by_cases h1 : l.length ≤ a
    · rw [if_pos h1] at h2; simp only at h2; omega
    rw [if_neg h1] at h h2 ⊢
    by_cases h4 : bt l a = 92
    · rw [if_pos h4] at h h2 ⊢
      by_cases h5 : escB l m a = true
      · rw [if_pos h5] at h h2 ⊢
        have := escB_lt h5
        exact sgnS_stop f _ _ (by omega) h h2
      · rw [if_neg h5] at h; cases h
    rw [if_neg h4] at h h2 ⊢
    by_cases h3 : wide = true ∧ 127 < bt l a
    · rw [if_pos h3] at h h2 ⊢
      by_cases h9 : (frontU l a).2 = true
      · rw [if_pos h9] at h h2 ⊢
        exact sgnS_stop f _ _ (front_le l a (by omega)).2.1 h h2
      · rw [if_neg h9] at h; cases h
    rw [if_neg h3] at h h2 ⊢
    by_cases h6 : 32 < bt l a ∧ bt l a < 127 ∧ (m.any fun c => bt l a == c.toNat) = false
    · rw [if_pos h6] at h h2 ⊢
      exact sgnS_stop f _ _ (by omega) h h2
    · rw [if_neg h6]
      simp only
      rintro (k | k | k)
      · exact h4 k
      · exact h3 k
      · exact h6 k
theorem sgn_stop {m : List UInt8} {wide : Bool} {a : Nat} (hl : a ≤ l.length) (h : (sgn l m wide a false).2.2 = false) (h2 : (sgn l m wide a false).2.1 < l.length) :
    ¬ (bt l (sgn l m wide a false).2.1 = 92 ∨ (wide = true ∧ 127 < bt l (sgn l m wide a false).2.1) ∨ (32 < bt l (sgn l m wide a false).2.1 ∧ bt l (sgn l m wide a false).2.1 < 127 ∧ (m.any fun c => bt l (sgn l m wide a false).2.1 == c.toNat) = false)) := by
  unfold sgn at h h2 ⊢
  simp only [Bool.false_eq_true, if_false, Bool.or_eq_false_iff] at h h2 ⊢
  exact sgnS_stop _ _ _ hl h.1 h2
theorem inkS_stop {e : Int} {m : List UInt8} {n : Int} : ∀ f a acc, a ≤ l.length → (inkS l e m n f a acc).2.2 = false → (inkS l e m n f a acc).2.1 < l.length ∧ bt l (inkS l e m n f a acc).2.1 = e
  | 0, a, acc, _, h => by simp [inkS] at h
  | f + 1, a, acc, hl, h => by
    unfold inkS at h ⊢
    by_cases h1 : l.length ≤ a
    · rw [if_pos h1] at h; cases h
    rw [if_neg h1] at h ⊢
    by_cases h2 : bt l a = e
    · rw [if_pos h2]; exact ⟨by simp; omega, h2⟩
    rw [if_neg h2] at h ⊢
    by_cases h3 : bt l a = 10
    · rw [if_pos h3] at h; cases h
    rw [if_neg h3] at h ⊢
    by_cases h4 : bt l a = 92
    · rw [if_pos h4] at h ⊢
      by_cases h5 : escB l m a = true
      · rw [if_pos h5] at h ⊢
        have := escB_lt h5
        exact inkS_stop f _ _ (by omega) h
      · rw [if_neg h5] at h; cases h
    rw [if_neg h4] at h ⊢
    by_cases h5 : (frontU l a).2 = true
    · rw [if_pos h5] at h ⊢
      exact inkS_stop f _ _ (front_le l a (by omega)).2.1 h
    · rw [if_neg h5] at h; cases h
/-- Scalars up to a byte. -/
theorem vd_ink {T TE : Q} {TU : UQ → Q} {e : Int} {m : List UInt8} {n : Int} (hu : UStep st ac T TU) (hac : ac T = false) (hacE : ac TE = false) (h10 : e ≠ 10 → st T 10 = none) (h92 : e ≠ 92 → st T 92 = some TE)
    (hE : ∀ c, st TE c = if (m.any fun d => c == d.toNat) = true then some T else none) (ha : ∀ c, 0 ≤ c → c < 128 → c ≠ e → c ≠ 10 → c ≠ 92 → st T c = some T) (hw : ∀ c, 128 ≤ c → c ≠ e → st T c = (uFirst c).map TU) :
    ∀ f a acc, l.length < f + a → a ≤ l.length → vd st ac l T a = if (inkS l e m n f a acc).2.2 = true then ((inkS l e m n f a acc).2.1 : Int) else vd st ac l T (inkS l e m n f a acc).2.1
  | 0, a, acc, hf, hl => by omega
  | f + 1, a, acc, hf, hl => by
    unfold inkS
    by_cases h1 : l.length ≤ a
    · rw [if_pos h1, vd_end h1 hac]; simp
    rw [if_neg h1]
    have hlt : a < l.length := by omega
    by_cases h2 : bt l a = e
    · rw [if_pos h2]; simp
    rw [if_neg h2]
    by_cases h3 : bt l a = 10
    · rw [if_pos h3, vd_no hlt (by rw [h3]; exact h10 (by omega))]; simp
    rw [if_neg h3]
    have hf' := front_le l a hlt
    have hb0 := bt_nonneg l a
    by_cases h4 : bt l a = 92
    · rw [if_pos h4, vd_yes hlt (by rw [h4]; exact h92 (by omega))]
      by_cases h5 : escB l m a = true
      · rw [if_pos h5]
        have h6 := escB_lt h5
        have h7 : (m.any fun d => bt l (a + 1) == d.toNat) = true := by simp only [escB, Bool.and_eq_true] at h5; exact h5.2
        rw [vd_yes h6 (by rw [hE, if_pos h7])]
        exact vd_ink hu hac hacE h10 h92 hE ha hw f (a + 2) _ (by omega) (by omega)
      · rw [if_neg h5]
        by_cases h6 : a + 1 < l.length
        · have h7 : ¬ (m.any fun d => bt l (a + 1) == d.toNat) = true := fun h => h5 (by simp only [escB, Bool.and_eq_true, decide_eq_true_eq]; exact ⟨h6, h⟩)
          rw [vd_no h6 (by rw [hE, if_neg h7])]; simp
        · rw [vd_end (by omega) hacE]; simp
    rw [if_neg h4]
    by_cases h8 : bt l a < 128
    · rw [vd_yes hlt (ha _ hb0 h8 h2 h3 h4)]
      have hz : frontU l a = (1, true) := by
        unfold frontU uSize
        rw [if_pos h8]
        simp [frGo]
      rw [hz]
      simp only [if_true]
      exact vd_ink hu hac hacE h10 h92 hE ha hw f (a + 1) _ (by omega) (by omega)
    · rw [vd_front hu hlt (by omega) (hw _ (by omega) h2)]
      by_cases h9 : (frontU l a).2 = true
      · rw [if_pos h9, if_pos h9]
        have := hf'.2.2 h9
        exact vd_ink hu hac hacE h10 h92 hE ha hw f _ _ (by omega) hf'.2.1
      · rw [if_neg h9, if_neg h9]; simp
/-- Signs. -/
structure SStep (st : Q → Int → Option Q) (ac : Q → Bool) (m : List UInt8) (wide : Bool) (T TE : Q) (TU : UQ → Q) : Prop where
  u : wide = true → UStep st ac T TU
  esc : st T 92 = some TE
  accE : ac TE = false
  escd : ∀ c, st TE c = if (m.any fun d => c == d.toNat) = true then some T else none
  one : ∀ c : Int, 32 < c → c < 127 → c ≠ 92 → (m.any fun d => c == d.toNat) = false → st T c = some T
  wd : wide = true → ∀ c, 127 < c → st T c = (uFirst c).map TU
/-- One step of the signs, from a state that may be the first one. -/
theorem sgn_step {m : List UInt8} {wide : Bool} {T TE T0 : Q} {TU : UQ → Q} (h : SStep st ac m wide T TE TU) {f a : Nat} {acc : List UInt8} (hf : l.length < f + 1 + a) (hlt : a < l.length)
    (e0 : bt l a = 92 ∨ (wide = true ∧ 127 < bt l a) ∨ (32 < bt l a ∧ bt l a < 127 ∧ (m.any fun c => bt l a == c.toNat) = false) → st T0 (bt l a) = st T (bt l a))
    (ih : ∀ b acc, a < b → b ≤ l.length → vd st ac l T b = if (sgnS l m wide f b acc).2.2 = true then ((sgnS l m wide f b acc).2.1 : Int) else vd st ac l T (sgnS l m wide f b acc).2.1) :
    (bt l a = 92 ∨ (wide = true ∧ 127 < bt l a) ∨ (32 < bt l a ∧ bt l a < 127 ∧ (m.any fun c => bt l a == c.toNat) = false) → vd st ac l T0 a = if (sgnS l m wide (f + 1) a acc).2.2 = true then ((sgnS l m wide (f + 1) a acc).2.1 : Int) else vd st ac l T (sgnS l m wide (f + 1) a acc).2.1) ∧
    (¬ (bt l a = 92 ∨ (wide = true ∧ 127 < bt l a) ∨ (32 < bt l a ∧ bt l a < 127 ∧ (m.any fun c => bt l a == c.toNat) = false)) → sgnS l m wide (f + 1) a acc = (acc, a, false)) := by
  have h1 : ¬ l.length ≤ a := by omega
  have hf' := front_le l a hlt
  refine ⟨fun hc => ?_, fun hc => ?_⟩
  · have e1 := e0 hc
    unfold sgnS
    rw [if_neg h1]
    by_cases h4 : bt l a = 92
    · rw [if_pos h4, vd_yes hlt (by rw [e1, h4]; exact h.esc)]
      by_cases h5 : escB l m a = true
      · rw [if_pos h5]
        have h6 := escB_lt h5
        have h7 : (m.any fun d => bt l (a + 1) == d.toNat) = true := by simp only [escB, Bool.and_eq_true] at h5; exact h5.2
        rw [vd_yes h6 (by rw [h.escd, if_pos h7])]
        exact ih (a + 2) _ (by omega) (by omega)
      · rw [if_neg h5]
        by_cases h6 : a + 1 < l.length
        · have h7 : ¬ (m.any fun d => bt l (a + 1) == d.toNat) = true := fun h => h5 (by simp only [escB, Bool.and_eq_true, decide_eq_true_eq]; exact ⟨h6, h⟩)
          rw [vd_no h6 (by rw [h.escd, if_neg h7])]; simp
        · rw [vd_end (by omega) h.accE]; simp
    rw [if_neg h4]
    by_cases h2 : wide = true ∧ 127 < bt l a
    · rw [if_pos h2, vd_front (h.u h2.1) hlt (by omega) (by rw [e1]; exact h.wd h2.1 _ h2.2)]
      by_cases h9 : (frontU l a).2 = true
      · rw [if_pos h9, if_pos h9]
        have := hf'.2.2 h9
        exact ih _ _ (by omega) hf'.2.1
      · rw [if_neg h9, if_neg h9]; simp
    rw [if_neg h2]
    have h3 : 32 < bt l a ∧ bt l a < 127 ∧ (m.any fun c => bt l a == c.toNat) = false := by
      rcases hc with hc | hc | hc
      · exact absurd hc h4
      · exact absurd hc h2
      · exact hc
    rw [if_pos h3, vd_yes hlt (by rw [e1]; exact h.one (bt l a) h3.1 h3.2.1 h4 h3.2.2)]
    exact ih (a + 1) _ (by omega) (by omega)
  · unfold sgnS
    rw [if_neg h1, if_neg (fun e => hc (.inl e)), if_neg (fun e => hc (.inr (.inl e))), if_neg (fun e => hc (.inr (.inr e)))]
theorem vd_sgnS {m : List UInt8} {wide : Bool} {T TE : Q} {TU : UQ → Q} (h : SStep st ac m wide T TE TU) : ∀ f a acc, l.length < f + a → a ≤ l.length → vd st ac l T a = if (sgnS l m wide f a acc).2.2 = true then ((sgnS l m wide f a acc).2.1 : Int) else vd st ac l T (sgnS l m wide f a acc).2.1
  | 0, a, acc, hf, hl => by omega
  | f + 1, a, acc, hf, hl => by
    by_cases h1 : l.length ≤ a
    · unfold sgnS
      rw [if_pos h1]; simp
    have hlt : a < l.length := by omega
    have hs := sgn_step (T0 := T) (acc := acc) h hf hlt (fun _ => rfl) (fun b acc hb hb2 => vd_sgnS h f b acc (by omega) hb2)
    by_cases hc : bt l a = 92 ∨ (wide = true ∧ 127 < bt l a) ∨ (32 < bt l a ∧ bt l a < 127 ∧ (m.any fun c => bt l a == c.toNat) = false)
    · exact hs.1 hc
    · rw [hs.2 hc]; simp
theorem vd_sgn {m : List UInt8} {wide : Bool} {T TE T0 : Q} {TU : UQ → Q} (h : SStep st ac m wide T TE TU) {a : Nat} (ha : a ≤ l.length) (h0 : ac T0 = false ∨ a < l.length)
    (e0 : a < l.length → st T0 (bt l a) = if bt l a = 92 ∨ (wide = true ∧ 127 < bt l a) ∨ (32 < bt l a ∧ bt l a < 127 ∧ (m.any fun c => bt l a == c.toNat) = false) then st T (bt l a) else none) :
    vd st ac l T0 a = if (sgn l m wide a false).2.2 = true then ((sgn l m wide a false).2.1 : Int) else vd st ac l T (sgn l m wide a false).2.1 := by
  unfold sgn
  simp only [Bool.false_eq_true, if_false]
  by_cases hlt : a < l.length
  · have e1 := e0 hlt
    have hs := sgn_step (T0 := T0) (acc := []) h (f := l.length) (by omega) hlt (fun hc => by rw [e1, if_pos hc]) (fun b acc hb hb2 => vd_sgnS h l.length b acc (by omega) hb2)
    by_cases hc : bt l a = 92 ∨ (wide = true ∧ 127 < bt l a) ∨ (32 < bt l a ∧ bt l a < 127 ∧ (m.any fun c => bt l a == c.toNat) = false)
    · rw [hs.1 hc]
      have hne : (sgnS l m wide (l.length + 1) a []).2.2 = false → (sgnS l m wide (l.length + 1) a []).2.1 ≠ a := fun hno => by
        have h1 : ¬ l.length ≤ a := by omega
        have hf' := front_le l a hlt
        unfold sgnS at hno ⊢
        rw [if_neg h1] at hno ⊢
        by_cases h4 : bt l a = 92
        · rw [if_pos h4] at hno ⊢
          by_cases h5 : escB l m a = true
          · rw [if_pos h5] at hno ⊢
            have := escB_lt h5
            have := (sgnS_le l m wide l.length (a + 2) ([] ++ [l.getD (a + 1) 0]) (by omega)).1
            omega
          · rw [if_neg h5] at hno; cases hno
        rw [if_neg h4] at hno ⊢
        by_cases h2 : wide = true ∧ 127 < bt l a
        · rw [if_pos h2] at hno ⊢
          by_cases h9 : (frontU l a).2 = true
          · rw [if_pos h9] at hno ⊢
            have h10 := hf'.2.2 h9
            have := (sgnS_le l m wide l.length (a + (frontU l a).1) ([] ++ cutL l a (a + (frontU l a).1)) hf'.2.1).1
            omega
          · rw [if_neg h9] at hno; cases hno
        rw [if_neg h2] at hno ⊢
        have h3 : 32 < bt l a ∧ bt l a < 127 ∧ (m.any fun c => bt l a == c.toNat) = false := by
          rcases hc with hc | hc | hc
          · exact absurd hc h4
          · exact absurd hc h2
          · exact hc
        rw [if_pos h3] at hno ⊢
        have := (sgnS_le l m wide l.length (a + 1) ([] ++ [l.getD a 0]) (by omega)).1
        omega
      cases hno : (sgnS l m wide (l.length + 1) a []).2.2
      · have : ((sgnS l m wide (l.length + 1) a []).2.1 == a) = false := by rw [beq_eq_false_iff_ne]; exact hne hno
        rw [this]; simp
      · simp
    · rw [hs.2 hc, vd_no hlt (by rw [e1, if_neg hc])]; simp
  · have : sgnS l m wide (l.length + 1) a [] = ([], a, false) := by
      unfold sgnS
      rw [if_pos (by omega)]
    rw [this, vd_end (by omega) (by rcases h0 with h0 | h0; exact h0; exact absurd h0 hlt)]; simp
end
end Go.Proofs.YtodgfapgmmjpcaaGreatDoor
