/- A rule's text: the machine of states whose verdict Compile's is; ends that close each state (no program in sight). -/
import Derived.Test.YtodgfapgmmjpcaaGreatDoorTplDef
import Derived.Test.YtodgfapgmmjpcaaGreatDoorDfaG
namespace Go.Proofs.YtodgfapgmmjpcaaGreatDoor
set_option linter.unusedVariables false
set_option linter.unusedSimpArgs false
open Go.RowKit
inductive TQ where
  | q0 | qH | qS | qF | f0 | pp (u : List Int) | pt | x0 | xn | v0 | v
def wMet : List Int := [109, 101, 116, 114, 105, 99]
def stT : TQ → Int → Option TQ
  | .q0, c => if c = 35 then some .qH else if c = 42 then some .qS else if dtNode c then some .qF else none
  | .qH, c => if c = 32 then some (.pp []) else none
  | .qS, c => if c = 46 then some .f0 else if c = 32 then some (.pp []) else none
  | .qF, c => if dtNode c then some .qF else if c = 46 then some .f0 else if c = 32 then some (.pp []) else none
  | .f0, c => if c = 42 then some .qS else if dtNode c then some .qF else none
  | .pp u, c => if dtNode c then some (.pp (u ++ [c])) else if u = [] then none else if c = 42 then (if u = wMet then some .pt else none) else if c = 46 then some (.pp []) else if c = 32 then some .x0 else none
  | .pt, c => if c = 32 then some .x0 else none
  | .x0, c => if dtNode c then some .xn else none
  | .xn, c => if dtNode c then some .xn else if c = 61 then some .v0 else none
  | .v0, c => if tmInk c then some .v else none
  | .v, c => if tmInk c then some .v else if c = 44 then some .x0 else none
def acT : TQ → Bool
  | .pp u => !(u == [])
  | .pt => true
  | .v => true
  | _ => false
section
variable {l : List UInt8}
abbrev VT (l : List UInt8) (q : TQ) (a : Nat) : Int := vd stT acT l q a
/-- The verdict at an end that may be one. -/
def yz (l : List UInt8) (p : Nat) : Int := if p < l.length then (p : Int) else -1
def ye (l : List UInt8) (p : Nat) : Int := if isB l p false 32 = true then VT l .x0 (p + 1) else yz l p
theorem gs_fltGo : ∀ f a acc, l.length < f + a → a ≤ l.length → GG (VT l .f0 a) (fltGo l f a false acc).2 (gf1 stT acT l 32 (.pp []))
  | 0, a, acc, hf, ha => by omega
  | f + 1, a, acc, hf, ha => by
    unfold fltGo
    rw [if_neg (by simp)]
    cases k : isB l a false 42
    · rw [if_neg (by simp)]
      have h2 : GG (VT l .f0 a) (someS l dtNode a false) (gf2 stT acT l 46 .f0 32 (.pp [])) :=
        gg_some2 (q := .qF) rfl rfl (fun hl => by
          show (if _ = 42 then _ else if dtNode _ = true then _ else _) = _
          rw [if_neg (isB_f k hl)]) (fun d => rfl)
      have hle := someS_le l dtNode a false ha
      generalize someS l dtNode a false = r at h2 hle ⊢
      cases k2 : isB l r.1 r.2 46
      · rw [if_neg (by simp)]
        refine GG.then_ h2 (fun hr => ?_)
        rw [hr] at k2
        unfold gf2
        rw [k2, if_neg (by simp)]
      · rw [if_pos rfl]
        have hlt := isB_lt k2
        unfold GG at h2
        rw [hlt.2.1, if_neg (by simp)] at h2
        unfold gf2 at h2
        rw [hlt.2.1] at k2
        rw [k2, if_pos rfl] at h2
        rw [h2]
        exact gs_fltGo f _ _ (by omega) (by omega)
    · rw [if_pos rfl]
      have hk := isB_iff.1 k
      have h1 : VT l .f0 a = VT l .qS (a + 1) := vd_yes hk.1 (by rw [hk.2]; rfl)
      rw [h1]
      cases k2 : isB l (a + 1) false 46
      · rw [if_neg (by simp)]
        unfold GG
        rw [if_neg (by simp)]
        exact gf1_of rfl (fun hl => by
          show (if _ = 46 then _ else if _ = 32 then _ else _) = _
          rw [if_neg (isB_f k2 hl)])
      · rw [if_pos rfl]
        have hk2 := isB_iff.1 k2
        have h2 : VT l .qS (a + 1) = VT l .f0 (a + 2) := vd_yes hk2.1 (by rw [hk2.2]; rfl)
        rw [h2]
        exact gs_fltGo f _ _ (by omega) (by omega)
theorem fltGo_le : ∀ f a no acc, a ≤ l.length → a ≤ (fltGo l f a no acc).2.1 ∧ (fltGo l f a no acc).2.1 ≤ l.length
  | 0, a, no, acc, h => ⟨Nat.le_refl _, h⟩
  | f + 1, a, no, acc, h => by
    unfold fltGo
    split
    · exact ⟨Nat.le_refl _, h⟩
    split
    · rename_i k
      have := (isB_lt k).1
      split
      · rename_i k2
        have := (isB_lt k2).1
        have ih := fltGo_le f (a + 2) false (acc ++ [wEvery]) (by omega)
        omega
      · simp only; omega
    · have h1 := someS_le l dtNode a false h
      split
      · rename_i k2
        have := (isB_lt k2).1
        have ih := fltGo_le f ((someS l dtNode a false).1 + 1) false (acc ++ [mkS (cutL l a (someS l dtNode a false).1)]) (by omega)
        omega
      · exact h1
theorem gs_flt : GG (VT l .q0 0) (fltS l).2 (gf1 stT acT l 32 (.pp [])) := by
  unfold fltS
  cases k : isB l 0 false 35
  · rw [if_neg (by simp)]
    have e : VT l .q0 0 = VT l .f0 0 := by
      by_cases hl : 0 < l.length
      · have h1 : stT .q0 (bt l 0) = stT .f0 (bt l 0) := by
          show (if _ = 35 then _ else _) = _
          rw [if_neg (isB_f k hl)]; rfl
        cases h2 : stT .f0 (bt l 0) with
        | none => rw [show VT l .q0 0 = ((0 : Nat) : Int) from vd_no hl (h1.trans h2), show VT l .f0 0 = ((0 : Nat) : Int) from vd_no hl h2]
        | some q => rw [show VT l .q0 0 = VT l q (0 + 1) from vd_yes hl (h1.trans h2), show VT l .f0 0 = VT l q (0 + 1) from vd_yes hl h2]
      · rw [show VT l .q0 0 = ((0 : Nat) : Int) from vd_end (by omega) rfl, show VT l .f0 0 = ((0 : Nat) : Int) from vd_end (by omega) rfl]
    rw [e]
    exact gs_fltGo (l.length + 1) 0 [] (by omega) (by omega)
  · rw [if_pos rfl]
    have hk := isB_iff.1 k
    have h1 : VT l .q0 0 = VT l .qH (0 + 1) := vd_yes hk.1 (by rw [hk.2]; rfl)
    unfold GG
    rw [if_neg (by simp), h1]
    exact gf1_of rfl (fun _ => rfl)
theorem fltS_le : (fltS l).2.1 ≤ l.length := by
  unfold fltS
  split
  · rename_i k; have := (isB_lt k).1; simp only; omega
  · exact (fltGo_le (l.length + 1) 0 false [] (by omega)).2
/-! ### parts -/
def intsL (w : List UInt8) : List Int := w.map fun c => (c.toNat : Int)
theorem intsL_inj : ∀ a b : List UInt8, intsL a = intsL b → a = b
  | [], [], _ => rfl
  | [], _ :: _, h => by simp [intsL] at h
  | _ :: _, [], h => by simp [intsL] at h
  | x :: a, y :: b, h => by
    unfold intsL at h
    rw [List.map_cons, List.map_cons] at h
    injection h with h1 h2
    have h3 : x = y := UInt8.toNat_inj.1 (by omega)
    rw [h3, intsL_inj a b h2]
theorem isM_ints (w : List UInt8) : isM (mkS w) = decide (intsL w = wMet) := by
  apply bcl
  unfold isM mkS
  rw [beq_iff_eq, decide_eq_true_eq]
  simp only
  exact ⟨fun h => by rw [h]; rfl, fun h => intsL_inj _ _ (h.trans rfl)⟩
theorem cut_step {a b : Nat} (h : a < b) (hb : b ≤ l.length) : intsL (cutL l a b) = bt l a :: intsL (cutL l (a + 1) b) := by
  unfold cutL intsL
  rw [List.drop_eq_getElem_cons (by omega : a < l.length), show b - a = (b - (a + 1)) + 1 by omega, List.take_succ_cons, List.map_cons, bt_get (by omega)]
theorem cut_same (a : Nat) : cutL l a a = [] := by unfold cutL; simp
theorem vd_pp : ∀ (n a : Nat) (u : List Int), l.length - a ≤ n → a ≤ l.length → VT l (.pp u) a = VT l (.pp (u ++ intsL (cutL l a (whA l dtNode a)))) (whA l dtNode a)
  | 0, a, u, hn, ha => by
    rw [whA_end (by omega), cut_same]; simp [intsL]
  | n + 1, a, u, hn, ha => by
    by_cases hl : a < l.length
    · cases hp : dtNode (bt l a)
      · rw [whA_no hl hp, cut_same]; simp [intsL]
      · have h2 := whA_le l dtNode (a + 1) (by omega)
        rw [whA_yes hl hp, cut_step (by omega) h2.2]
        have h1 : VT l (.pp u) a = VT l (.pp (u ++ [bt l a])) (a + 1) := vd_yes hl (by
          show (if dtNode _ = true then _ else _) = _
          rw [if_pos hp])
        rw [h1, vd_pp n (a + 1) (u ++ [bt l a]) (by omega) (by omega), List.append_assoc]
        rfl
    · rw [whA_end (by omega), cut_same]; simp [intsL]
theorem v_pt {p : Nat} (hp : p ≤ l.length) : VT l .pt p = ye l p := by
  unfold ye yz
  by_cases h : p < l.length
  · cases k : isB l p false 32
    · rw [if_neg (by simp), if_pos h]
      exact vd_no h (by show (if _ = 32 then _ else _) = _; rw [if_neg (isB_f k h)])
    · have hk := isB_iff.1 k
      rw [if_pos rfl]
      exact vd_yes h (by rw [hk.2]; rfl)
  · rw [isB_end h, if_neg (by simp), if_neg h]
    exact vd_acc (by omega) rfl
theorem gs_prtGo : ∀ f a acc, l.length < f + a → a ≤ l.length → GG (VT l (.pp []) a) (prtGo l f a false acc).2 (ye l)
  | 0, a, acc, hf, ha => by omega
  | f + 1, a, acc, hf, ha => by
    have hv := vd_pp (l := l) (l.length - a) a [] (Nat.le_refl _) ha
    have hle := someS_le l dtNode a false ha
    have hs := someS_stop (l := l) (p := dtNode) (a := a)
    have e1 : (someS l dtNode a false).1 = whA l dtNode a := by simp [someS]
    have e2 : (someS l dtNode a false).2 = (whA l dtNode a == a) := by simp [someS]
    unfold prtGo
    rw [if_neg (by simp)]
    rw [← e1] at hv e2
    generalize someS l dtNode a false = r at hv hle hs e2 ⊢
    obtain ⟨b, nb⟩ := r
    simp only at hv hle hs e2 ⊢
    rw [List.nil_append] at hv
    by_cases hab : b = a
    · obtain rfl : nb = true := by rw [e2, hab]; simp
      subst hab
      simp only [isB_no, Bool.and_false, Bool.false_eq_true, if_false]
      unfold GG
      simp only [if_true]
      by_cases hl : b < l.length
      · exact vd_no hl (by
          show (if dtNode _ = true then _ else if ([] : List Int) = [] then _ else _) = _
          rw [if_neg (by rw [hs hl]; simp), if_pos rfl])
      · exact vd_end (by omega) rfl
    · obtain rfl : nb = false := by rw [e2, beq_eq_false_iff_ne]; exact hab
      have hne : intsL (cutL l a b) ≠ [] := by
        rw [cut_step (by omega) hle.2]; simp
      rw [isM_ints]
      generalize intsL (cutL l a b) = u at hv hne ⊢
      by_cases h42 : u = wMet ∧ isB l b false 42 = true
      · rw [if_pos (by simp [h42.1, h42.2])]
        have hk := isB_iff.1 h42.2
        unfold GG
        rw [if_neg (by simp), hv, ← v_pt (by simp only; omega)]
        refine vd_yes hk.1 ?_
        rw [hk.2, h42.1]; rfl
      · rw [if_neg (by simpa using h42)]
        cases k : isB l b false 46
        · rw [if_neg (by simp)]
          unfold GG
          rw [if_neg (by simp), hv]
          unfold ye yz
          by_cases hl : b < l.length
          · have hst : stT (.pp u) (bt l b) = if bt l b = 32 then some .x0 else none := by
              show (if dtNode _ = true then _ else if u = [] then _ else if _ = 42 then _ else if _ = 46 then _ else _) = _
              rw [if_neg (by rw [hs hl]; simp), if_neg hne]
              by_cases h1 : bt l b = 42
              · rw [if_pos h1, if_neg (fun h => h42 ⟨h, isB_iff.2 ⟨hl, h1⟩⟩), if_neg (by rw [h1]; decide)]
              · rw [if_neg h1, if_neg (isB_f k hl)]
            cases k2 : isB l b false 32
            · rw [if_neg (by simp), if_pos hl]
              exact vd_no hl (by rw [hst, if_neg (isB_f k2 hl)])
            · rw [if_pos rfl]
              exact vd_yes hl (by rw [hst, if_pos (isB_iff.1 k2).2])
          · rw [isB_end hl, if_neg (by simp), if_neg hl]
            exact vd_acc (by omega) (by simpa [acT] using hne)
        · rw [if_pos rfl]
          have hk := isB_iff.1 k
          have h2 : VT l (.pp u) b = VT l (.pp []) (b + 1) := vd_yes hk.1 (by
            show (if dtNode _ = true then _ else if u = [] then _ else if _ = 42 then _ else if _ = 46 then _ else _) = _
            rw [if_neg (by rw [hs hk.1]; simp), if_neg hne, hk.2]; rfl)
          rw [hv, h2]
          exact gs_prtGo f _ _ (by omega) (by omega)
theorem prtGo_le : ∀ f a no acc, a ≤ l.length → a ≤ (prtGo l f a no acc).2.1 ∧ (prtGo l f a no acc).2.1 ≤ l.length
  | 0, a, no, acc, h => ⟨Nat.le_refl _, h⟩
  | f + 1, a, no, acc, h => by
    unfold prtGo
    have h1 := someS_le l dtNode a false h
    split
    · exact ⟨Nat.le_refl _, h⟩
    split
    · rename_i k
      simp only [Bool.and_eq_true] at k
      have := (isB_lt k.2).1
      simp only; omega
    split
    · rename_i k2
      have := (isB_lt k2).1
      have ih := prtGo_le f ((someS l dtNode a false).1 + 1) false (acc ++ [mkS (cutL l a (someS l dtNode a false).1)]) (by omega)
      omega
    · exact h1
theorem prtGo_no (f a : Nat) (acc : List ByteArray) : (prtGo l f a true acc).2 = (a, true) := by
  cases f <;> simp [prtGo]
/-! ### labels -/
theorem labS_le {a : Nat} (h : a ≤ l.length) : a ≤ (labS l a).2.1 ∧ (labS l a).2.1 ≤ l.length := by
  unfold labS
  simp only
  have h1 := someS_le l dtNode a false h
  generalize someS l dtNode a false = k at h1 ⊢
  have h2 := wordS_le l [61] k.1 k.2 h1.2
  generalize wordS l [61] k.1 k.2 = e at h2 ⊢
  have h3 := someS_le l tmInk e.1 e.2 h2.2
  omega
theorem extGo_le : ∀ f a no acc, a ≤ l.length → a ≤ (extGo l f a no acc).2.1 ∧ (extGo l f a no acc).2.1 ≤ l.length
  | 0, a, no, acc, h => ⟨Nat.le_refl _, h⟩
  | f + 1, a, no, acc, h => by
    unfold extGo
    have h1 := labS_le (l := l) h
    split
    · exact ⟨Nat.le_refl _, h⟩
    split
    · rename_i k
      have := (isB_lt k).1
      have ih := extGo_le f ((labS l a).2.1 + 1) false (acc ++ [(labS l a).1]) (by omega)
      omega
    · exact h1
theorem gs_lab {a : Nat} : GG (VT l .x0 a) (labS l a).2 (VT l .v) := by
  have h1 : GG (VT l .x0 a) (someS l dtNode a false) (gf1 stT acT l 61 .v0) := gg_some1 (q := .xn) rfl rfl (fun _ => rfl) (fun d => rfl)
  have h2 := GG.bind (F := fun p no => wordS l [61] p no) h1 (word_no _ _ _) (fun _ => gg_word1 61 TQ.v0 _)
  refine GG.bind (F := fun p no => someS l tmInk p no) h2 (some_noG _ _) (fun _ => gg_some rfl (fun _ => rfl) (fun d hd => ?_))
  show (if tmInk d = true then _ else _) = _
  rw [if_pos hd]
theorem lab_stop {a : Nat} (h : (labS l a).2.2 = false) (h2 : (labS l a).2.1 < l.length) : tmInk (bt l (labS l a).2.1) = false := by
  unfold labS at h h2 ⊢
  simp only at h h2 ⊢
  generalize wordS l [61] (someS l dtNode a false).1 (someS l dtNode a false).2 = e at h h2 ⊢
  obtain ⟨p, np⟩ := e
  cases np
  · exact someS_stop h2
  · simp [someS] at h
theorem gs_extGo : ∀ f a acc, l.length < f + a → a ≤ l.length → GG (VT l .x0 a) (extGo l f a false acc).2 (yz l)
  | 0, a, acc, hf, ha => by omega
  | f + 1, a, acc, hf, ha => by
    have ht := gs_lab (l := l) (a := a)
    have hle := labS_le (l := l) ha
    have hst := lab_stop (l := l) (a := a)
    unfold extGo
    rw [if_neg (by simp)]
    generalize (labS l a).1 = X
    generalize (labS l a).2 = r at ht hle hst ⊢
    cases k : isB l r.1 r.2 44
    · rw [if_neg (by simp)]
      refine GG.then_ ht (fun hr => ?_)
      rw [hr] at k
      unfold yz
      by_cases hl : r.1 < l.length
      · rw [if_pos hl]
        exact vd_no hl (by
          show (if tmInk _ = true then _ else if _ = 44 then _ else _) = _
          rw [if_neg (by rw [hst hr hl]; simp), if_neg (isB_f k hl)])
      · rw [if_neg hl]
        simp only at hl hle ⊢
        exact vd_acc (by omega) rfl
    · rw [if_pos rfl]
      have hlt := isB_lt k
      unfold GG at ht
      rw [hlt.2.1, if_neg (by simp)] at ht
      have h2 : VT l .v r.1 = VT l .x0 (r.1 + 1) := vd_yes hlt.1 (by rw [hlt.2.2]; rfl)
      rw [ht, h2]
      exact gs_extGo f _ _ (by omega) (by omega)
/-! ### a rule -/
theorem gs_comp : GG (VT l .q0 0) (compS l).2 (yz l) ∧ (compS l).2.1 ≤ l.length := by
  have h1 := gs_flt (l := l)
  have l1 := fltS_le (l := l)
  unfold compS
  simp only
  generalize fltS l = r at h1 l1 ⊢
  have h2 := GG.bind (F := fun p no => wordS l [32] p no) h1 (word_no _ _ _) (fun _ => gg_word1 32 (TQ.pp []) _)
  have l2 := wordS_le l [32] r.2.1 r.2.2 l1
  try simp only at h2
  generalize wordS l [32] r.2.1 r.2.2 = w at h2 l2 ⊢
  have h3 := GG.bind (F := fun p no => (prtGo l (l.length + 1) p no []).2) h2 (prtGo_no _ _ _) (fun _ => gs_prtGo (l.length + 1) _ [] (by omega) l2.2)
  have l3 := prtGo_le (l := l) (l.length + 1) w.1 w.2 [] l2.2
  try simp only at h3
  generalize prtGo l (l.length + 1) w.1 w.2 [] = p at h3 l3 ⊢
  cases k : isB l p.2.1 p.2.2 32
  · rw [if_neg (by simp)]
    refine ⟨GG.then_ h3 (fun hr => ?_), l3.2⟩
    rw [hr] at k
    unfold ye
    rw [k, if_neg (by simp)]
  · rw [if_pos rfl]
    have hlt := isB_lt k
    unfold GG at h3
    rw [hlt.2.1, if_neg (by simp)] at h3
    unfold ye at h3
    rw [hlt.2.1] at k
    rw [k, if_pos rfl] at h3
    rw [h3]
    exact ⟨gs_extGo (l.length + 1) _ [] (by omega) (by omega), (extGo_le (l := l) (l.length + 1) _ false [] (by omega)).2⟩
theorem compS_le (l : List UInt8) : (compS l).2.1 ≤ l.length := gs_comp.2
/-- The verdict on a text: -1: it is of the form. -/
def compV (l : List UInt8) : Int := vdGo stT acT .q0 l 0
theorem compV_eq (l : List UInt8) : compV l = if ((compS l).2.2 || decide ((compS l).2.1 ≠ l.length)) = true then ((compS l).2.1 : Int) else -1 := by
  obtain ⟨h, hle⟩ := gs_comp (l := l)
  have e : compV l = VT l .q0 0 := rfl
  rw [e]
  unfold GG yz at h
  rw [h]
  cases (compS l).2.2
  · by_cases hl : (compS l).2.1 < l.length
    · rw [if_neg (by simp), if_pos hl, if_pos (by simp; omega)]
    · rw [if_neg (by simp), if_neg hl, if_neg (by simp; omega)]
  · simp
theorem compT_bad {k : Nat} (h : compV l = (k : Int)) : compT l = .error (11, k) ∧ k ≤ l.length := by
  rw [compV_eq] at h
  have := compS_le l
  unfold compT
  split at h
  · rename_i hc
    rw [if_pos hc]
    have : (compS l).2.1 = k := by omega
    rw [this] at *
    exact ⟨rfl, by omega⟩
  · omega
theorem compT_good (h : compV l = -1) : ∀ k, compT l ≠ .error (11, k) := by
  rw [compV_eq] at h
  intro k
  unfold compT
  split at h
  · omega
  · rename_i hc
    rw [if_neg hc]
    split
    · simp
    · simp
theorem compV_cases (l : List UInt8) : compV l = -1 ∨ ∃ k : Nat, k ≤ l.length ∧ compV l = (k : Int) := by
  have := vdGo_bd (st := stT) (ac := acT) l TQ.q0 0
  unfold compV
  rcases this with h | h
  · exact .inl h
  · exact .inr ⟨(vdGo stT acT TQ.q0 l 0).toNat, by omega, by omega⟩
theorem comp_far {k : Nat} (h : compV l = (k : Int)) (hk : k < l.length) (e : List UInt8) : compV (l.take (k + 1) ++ e) = (k : Int) := vdGo_far l TQ.q0 0 k h (by omega) e
/-- The ends that are tried. -/
def endsT : List (List UInt8) := [[], [97], [35, 32, 97], [32, 97], [61, 97], [97, 61, 97], [97, 32, 97]]
def closeT : TQ → Nat
  | .q0 => 2 | .qH => 3 | .qS => 3 | .qF => 3 | .f0 => 6 | .pp u => if u = [] then 1 else 0 | .pt => 0 | .x0 => 5 | .xn => 4 | .v0 => 1 | .v => 0
theorem closeT_ok (q : TQ) : closeT q < 7 ∧ vdGo stT acT q (endsT.getD (closeT q) []) 0 = -1 := by
  cases q with
  | pp u =>
    by_cases h : u = []
    · subst h; exact ⟨by decide, by decide +kernel⟩
    · have e : closeT (.pp u) = 0 := if_neg h
      rw [e]
      refine ⟨by decide, ?_⟩
      show (if acT (.pp u) = true then (-1 : Int) else _) = -1
      rw [if_pos (by simpa [acT] using h)]
  | _ => exact ⟨by decide, by decide +kernel⟩
theorem comp_closes {k : Nat} (h : compV l = (k : Int)) : ∃ i, i < 7 ∧ compV (l.take k ++ endsT.getD i []) = -1 := by
  have hb := vdGo_bd (st := stT) (ac := acT) l TQ.q0 0
  obtain ⟨q, hq, _⟩ := vdGo_reach (st := stT) (ac := acT) k l TQ.q0 0 (by unfold compV at h; omega) (by right; unfold compV at h; omega)
  obtain ⟨h1, h2⟩ := closeT_ok q
  refine ⟨_, h1, ?_⟩
  unfold compV
  rw [hq]
  exact vdGo_neg _ _ _ _ h2
end
end Go.Proofs.YtodgfapgmmjpcaaGreatDoor
