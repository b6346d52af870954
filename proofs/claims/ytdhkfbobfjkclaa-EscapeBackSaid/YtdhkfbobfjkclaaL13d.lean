/- EscapeBack: the plain law. -/
import Derived.Test.YtdhkfbobfjkclaaL13a
import Derived.Test.YtdhkfbobfjkclaaL13c
namespace Go.Proofs.Ytdhkfbobfjkclaa
open Go.RowKit
/-! ### what became of a name is undone -/
/-- The rest of what a name becomes, from place i on. -/
def escR (p wh : Int) (l : List UInt8) : List UInt8 → Nat → List UInt8
  | [], _ => []
  | _ :: t, i => escAt p wh l i ++ escR p wh l t (i + 1)
theorem escR_to (p wh : Int) (l : List UInt8) : ∀ (t : List UInt8) (i : Nat), i + t.length = l.length → escTo p wh l i ++ escR p wh l t i = escB p wh l
  | [], i, h => by simp at h; subst h; simp [escR, escB]
  | _ :: t, i, h => by
    simp only [List.length_cons] at h
    rw [escR, ← List.append_assoc]
    exact escR_to p wh l t (i + 1) (by omega)
theorem escR_zero (p wh : Int) (l : List UInt8) : escR p wh l l 0 = escB p wh l := escR_to p wh l l 0 (by simp)
theorem escR_head (p wh : Int) (l : List UInt8) (t : List UInt8) (i : Nat) (ht : t = l.drop i) (h : ∀ c r, t = c :: r → staysB p wh l i = true → c ≠ 120) (x : UInt8) (r : List UInt8) (e : escR p wh l t i = x :: r) : x ≠ 120 := by
  cases t with
  | nil => cases e
  | cons c q =>
    rw [escR, escAt] at e
    have hg : l.getD i 0 = c := by
      have : (l.drop i)[0]? = some c := by rw [← ht]; rfl
      rw [List.getElem?_drop] at this
      rw [List.getD_eq_getElem?_getD, show i = i + 0 from rfl, this]; rfl
    split at e
    · rename_i hs
      rw [hg] at e
      injection e with e1 _
      rw [← e1]
      exact h c q rfl hs
    · injection e with e1 _
      rw [← e1]; decide
theorem hex_val : ∀ c : UInt8, byteOk [hexB (c.toNat / 16), hexB (c.toNat % 16)] = true ∧ byteV [hexB (c.toNat / 16), hexB (c.toNat % 16)] = c := by
  have : ∀ n : Nat, n < 256 → byteOk [hexB (n / 16), hexB (n % 16)] = true ∧ byteV [hexB (n / 16), hexB (n % 16)] = UInt8.ofNat n := by decide +kernel
  intro c
  have h := this c.toNat c.toNat_lt
  rwa [UInt8.ofNat_toNat] at h
theorem byteOk_two (a b : UInt8) (t : List UInt8) : byteOk (a :: b :: t) = byteOk [a, b] ∧ byteV (a :: b :: t) = byteV [a, b] := by
  constructor
  · unfold byteOk; simp
  · unfold byteV; simp
theorem undo_esc (p wh : Int) (l : List UInt8) : ∀ (t : List UInt8) (i : Nat), t = l.drop i → undoB (escR p wh l t i) = some t
  | [], _, _ => rfl
  | c :: t, i, ht => by
    have hg : l.getD i 0 = c := by
      have : (l.drop i)[0]? = some c := by rw [← ht]; rfl
      rw [List.getElem?_drop] at this
      rw [List.getD_eq_getElem?_getD, show i = i + 0 from rfl, this]; rfl
    have ht' : t = l.drop (i + 1) := by
      have := congrArg (List.drop 1) ht
      rw [List.drop_drop] at this
      simpa using this
    have ih := undo_esc p wh l t (i + 1) ht'
    rw [escR, escAt]
    split
    · rename_i hs
      rw [hg]
      have hm : markB l i = false := by unfold staysB at hs; cases h : markB l i <;> simp_all
      show undoB (c :: escR p wh l t (i + 1)) = _
      rw [undoB_cons, if_neg, ih]
      · rfl
      · intro hp
        unfold markB Lib.hasPrefix at hm
        rw [← ht] at hm
        unfold Lib.hasPrefix at hp
        cases he : escR p wh l t (i + 1) with
        | nil => rw [he] at hp; simp [List.isPrefixOf] at hp
        | cons x r =>
          rw [he] at hp
          simp [List.isPrefixOf] at hp
          refine escR_head p wh l t (i + 1) ht' (fun d q e _ hd => ?_) x r he hp.2.symm
          subst e; subst hd
          rw [← hp.1] at hm
          simp [List.isPrefixOf] at hm
    · rw [hg]
      obtain ⟨h1, h2⟩ := hex_val c
      show undoB (95 :: 120 :: hexB (c.toNat / 16) :: hexB (c.toNat % 16) :: escR p wh l t (i + 1)) = _
      rw [undoB_cons, if_pos (by simp [Lib.hasPrefix, List.isPrefixOf])]
      obtain ⟨b1, b2⟩ := byteOk_two (hexB (c.toNat / 16)) (hexB (c.toNat % 16)) (escR p wh l t (i + 1))
      show (if byteOk (hexB (c.toNat / 16) :: hexB (c.toNat % 16) :: escR p wh l t (i + 1)) = true then Option.map _ (undoB (escR p wh l t (i + 1))) else none) = _
      rw [b1, h1, if_pos rfl, ih]
      show some (byteV (hexB (c.toNat / 16) :: hexB (c.toNat % 16) :: escR p wh l t (i + 1)) :: t) = _
      rw [b2, h2]
theorem undo_escB (p wh : Int) (l : List UInt8) : undoB (escB p wh l) = some l := by
  rw [← escR_zero]; exact undo_esc p wh l l 0 rfl
theorem back_escB (p wh : Int) (l : List UInt8) : backB p wh (escB p wh l) = l := by
  unfold backB; rw [undo_escB]; simp
theorem esc_inj (p wh : Int) (l r : List UInt8) : escB p wh l = escB p wh r ↔ l = r :=
  ⟨fun h => by have := undo_escB p wh l; rw [h, undo_escB] at this; injection this with e; exact e.symm, fun h => by rw [h]⟩
/-! ### what became of a name is legal -/
theorem bt_app_l (a b : List UInt8) (j : Nat) (h : j < a.length) : bt (a ++ b) j = bt a j := by
  unfold bt; rw [List.getD_eq_getElem?_getD, List.getD_eq_getElem?_getD, List.getElem?_append_left h]
theorem bt_app_r (a b : List UInt8) (o : Nat) : bt (a ++ b) (a.length + o) = bt b o := by
  unfold bt; rw [List.getD_eq_getElem?_getD, List.getD_eq_getElem?_getD, List.getElem?_append_right (by omega)]; simp
theorem esc_pos (p wh : Int) (l : List UInt8) : ∀ (n j : Nat), j < (escTo p wh l n).length → ∃ i o, i < n ∧ o < (escAt p wh l i).length ∧ j = (escTo p wh l i).length + o
  | 0, j, h => by simp [escTo] at h
  | n + 1, j, h => by
    rw [escTo, List.length_append] at h
    by_cases hj : j < (escTo p wh l n).length
    · obtain ⟨i, o, h1, h2, h3⟩ := esc_pos p wh l n j hj
      exact ⟨i, o, by omega, h2, h3⟩
    · exact ⟨n, j - (escTo p wh l n).length, by omega, by omega, by omega⟩
theorem esc_at (p wh : Int) (l : List UInt8) (i o : Nat) (hi : i < l.length) (ho : o < (escAt p wh l i).length) :
    bt (escB p wh l) ((escTo p wh l i).length + o) = bt (escAt p wh l i) o ∧ (escTo p wh l i).length + o < (escB p wh l).length := by
  have h := escR_to p wh l (l.drop (i + 1)) (i + 1) (by simp; omega)
  rw [escTo] at h
  rw [← h, List.append_assoc]
  refine ⟨?_, by simp only [List.length_append]; omega⟩
  rw [bt_app_r, bt_app_l _ _ _ ho]
theorem letterB_iff (c : Int) (d : Bool) : letterB c d = true ↔ (97 ≤ c ∧ c ≤ 122) ∨ (65 ≤ c ∧ c ≤ 90) ∨ (d = true ∧ 48 ≤ c ∧ c ≤ 57) := by
  unfold letterB; simp only [Bool.or_eq_true, Bool.and_eq_true, decide_eq_true_eq, or_assoc]
theorem hexB_range (n : Nat) : (48 ≤ (hexB n).toNat ∧ (hexB n).toNat ≤ 57) ∨ (97 ≤ (hexB n).toNat ∧ (hexB n).toNat ≤ 102) := by
  unfold hexB; split <;> decide
theorem escAt_pos (p wh : Int) (l : List UInt8) (i : Nat) : 1 ≤ (escAt p wh l i).length := by unfold escAt; split <;> simp
theorem escAt_last (p wh : Int) (l : List UInt8) (i : Nat) (h : bt l i ≠ 46) : bt (escAt p wh l i) ((escAt p wh l i).length - 1) ≠ 46 := by
  unfold escAt
  split
  · exact h
  · show ((hexB ((l.getD i 0).toNat % 16)).toNat : Int) ≠ 46
    have := hexB_range ((l.getD i 0).toNat % 16)
    omega
set_option maxHeartbeats 3200000 in
theorem esc_legal (p wh : Int) (hp : 1 ≤ p ∧ p ≤ 4) (hw : wh = 0 ∨ wh = 1) (l : List UInt8) (j : Nat) (hj : j < (escB p wh l).length) : legalB p wh (escB p wh l) j = true := by
  obtain ⟨i, o, hi, ho, rfl⟩ := esc_pos p wh l l.length j hj
  obtain ⟨hc, hlt⟩ := esc_at p wh l i o hi ho
  have hcnt := escTo_cnt p wh l i
  unfold legalB
  rw [decide_eq_true_eq]
  refine ⟨by omega, by omega, hw, ?_⟩
  simp only [lineB, pointB, letterB_iff, Int.toNat_natCast, hc, decide_eq_true_eq, eq_self, true_and]
  cases hs : staysB p wh l i
  · have e : escAt p wh l i = [95, 120, hexB ((l.getD i 0).toNat / 16), hexB ((l.getD i 0).toNat % 16)] := by unfold escAt; rw [if_neg (by simp [hs])]
    rw [e] at ho ⊢
    have r1 := hexB_range ((l.getD i 0).toNat / 16)
    have r2 := hexB_range ((l.getD i 0).toNat % 16)
    simp only [List.length_cons, List.length_nil] at ho
    have h4 : o = 0 ∨ o = 1 ∨ o = 2 ∨ o = 3 := by omega
    rcases h4 with rfl | rfl | rfl | rfl
    · rw [show bt [95, 120, hexB ((l.getD i 0).toNat / 16), hexB ((l.getD i 0).toNat % 16)] 0 = 95 from rfl]; omega
    · rw [show bt [95, 120, hexB ((l.getD i 0).toNat / 16), hexB ((l.getD i 0).toNat % 16)] 1 = 120 from rfl]; omega
    · rw [show bt [95, 120, hexB ((l.getD i 0).toNat / 16), hexB ((l.getD i 0).toNat % 16)] 2 = ((hexB ((l.getD i 0).toNat / 16)).toNat : Int) from rfl]; omega
    · rw [show bt [95, 120, hexB ((l.getD i 0).toNat / 16), hexB ((l.getD i 0).toNat % 16)] 3 = ((hexB ((l.getD i 0).toNat % 16)).toNat : Int) from rfl]; omega
  · have e : escAt p wh l i = [l.getD i 0] := by unfold escAt; rw [if_pos hs]
    have hL : legalB p wh l i = true := by unfold staysB at hs; cases h : legalB p wh l i <;> simp_all
    rw [e] at ho ⊢
    simp only [List.length_cons, List.length_nil] at ho
    obtain rfl : o = 0 := by omega
    rw [show bt [l.getD i 0] 0 = bt l i from rfl]
    unfold legalB at hL
    rw [decide_eq_true_eq] at hL
    simp only [lineB, pointB, letterB_iff, Int.toNat_natCast, decide_eq_true_eq, eq_self, true_and] at hL
    have hprev : 0 < i → bt l (i - 1) ≠ 46 → bt (escB p wh l) ((escTo p wh l i).length + 0 - 1) ≠ 46 := by
      intro h0 h46
      obtain ⟨q, rfl⟩ : ∃ q, i = q + 1 := ⟨i - 1, by omega⟩
      have hpos := escAt_pos p wh l q
      have := (esc_at p wh l q ((escAt p wh l q).length - 1) (by omega) (by omega)).1
      rw [show (escTo p wh l (q + 1)).length + 0 - 1 = (escTo p wh l q).length + ((escAt p wh l q).length - 1) from by rw [escTo, List.length_append]; omega, this]
      exact escAt_last p wh l q h46
    have hnext : i + 1 < l.length → (escTo p wh l i).length + 1 < (escB p wh l).length := by
      intro h
      have hpos := escAt_pos p wh l (i + 1)
      have := (esc_at p wh l (i + 1) 0 h (by omega)).2
      rw [escTo, List.length_append, e] at this
      simpa using this
    have hp4 : p = 1 ∨ p = 2 ∨ p = 3 ∨ p = 4 := by omega
    rcases hp4 with h | h | h | h <;> subst h <;> simp only [Int.reduceEq, false_and, true_and, false_or, or_false] at hL ⊢ <;> omega
theorem badFrom_none (p wh : Int) (l : List UInt8) (h : ∀ j : Nat, j < l.length → legalB p wh l j = true) : badB p wh l = -1 := by
  have key : ∀ n i : Nat, i + n = l.length → badFrom p wh l n i = -1 := by
    intro n
    induction n with
    | zero => intro i _; rfl
    | succ n ih => intro i hi; unfold badFrom; rw [if_pos (h i (by omega))]; exact ih (i + 1) (by omega)
  exact key _ 0 (by omega)
theorem esc_bad (p wh : Int) (hp : 1 ≤ p ∧ p ≤ 4) (hw : wh = 0 ∨ wh = 1) (l : List UInt8) : badB p wh (escB p wh l) = -1 := badFrom_none p wh _ (esc_legal p wh hp hw l)
theorem esc_len (p wh : Int) (l : List UInt8) : l.length ≤ (escB p wh l).length := by
  have := escTo_cnt p wh l l.length
  unfold escB; omega
end Go.Proofs.Ytdhkfbobfjkclaa
