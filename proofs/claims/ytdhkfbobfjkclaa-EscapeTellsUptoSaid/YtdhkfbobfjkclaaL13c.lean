/- EscapeStays: the plain law and the walk. -/
import Derived.Test.YtdhkfbobfjkclaaL13a
import Derived.BigQuiet
namespace Go.Proofs.Ytdhkfbobfjkclaa
open Go.RowKit
/-! ### the plain law -/
def cntTo (p wh : Int) (l : List UInt8) : Nat → Nat
  | 0 => 0
  | n + 1 => cntTo p wh l n + if staysB p wh l n = true then 0 else 1
theorem escTo_cnt (p wh : Int) (l : List UInt8) : ∀ n, (escTo p wh l n).length = n + 3 * cntTo p wh l n
  | 0 => rfl
  | n + 1 => by
    simp only [escTo, List.length_append, cntTo, escTo_cnt p wh l n, escAt]
    split <;> simp <;> omega
theorem cntTo_le (p wh : Int) (l : List UInt8) : ∀ n, cntTo p wh l n ≤ n
  | 0 => by simp [cntTo]
  | n + 1 => by have := cntTo_le p wh l n; simp only [cntTo]; split <;> omega
theorem cnt_zero (p wh : Int) (l : List UInt8) : ∀ n, cntTo p wh l n = 0 → ∀ i, i < n → staysB p wh l i = true
  | 0, _, i, h => by omega
  | n + 1, h, i, hi => by
    simp only [cntTo] at h
    by_cases e : i = n
    · subst e
      cases hs : staysB p wh l i
      · rw [hs] at h; simp at h
      · rfl
    · exact cnt_zero p wh l n (by omega) i (by omega)
theorem esc_same (p wh : Int) (l : List UInt8) : ∀ n, n ≤ l.length → (∀ i, i < n → staysB p wh l i = true) → escTo p wh l n = l.take n
  | 0, _, _ => rfl
  | n + 1, hn, h => by
    rw [escTo, esc_same p wh l n (by omega) (fun i hi => h i (by omega)), escAt, if_pos (h n (by omega)), List.take_succ_eq_append_getElem (by omega), List.getD_eq_getElem?_getD, List.getElem?_eq_getElem (by omega)]
    rfl
theorem undo_plain : ∀ (l : List UInt8), (∀ i, i < l.length → markB l i = false) → undoB l = some l
  | [], _ => rfl
  | c :: t, h => by
    have h0 := h 0 (by simp)
    unfold markB at h0
    rw [undoB_cons, if_neg (by simpa using h0), undo_plain t (fun i hi => by have := h (i + 1) (by simp; omega); simpa [markB] using this)]
    rfl
theorem stays_law (p wh : Int) (l : List UInt8) (n : Nat) (hn : n = cntTo p wh l l.length) :
    (escB p wh l).length = l.length + 3 * n ∧ ((escB p wh l == l) = decide (n = 0)) ∧ (n = 0 → backB p wh l = l) := by
  subst hn
  have h1 : (escB p wh l).length = l.length + 3 * cntTo p wh l l.length := escTo_cnt p wh l l.length
  refine ⟨h1, ?_, fun h0 => ?_⟩
  · by_cases h0 : cntTo p wh l l.length = 0
    · have : escB p wh l = l := by
        unfold escB; rw [esc_same p wh l l.length (Nat.le_refl _) (cnt_zero p wh l _ h0)]; simp
      rw [this]; simp [h0]
    · have : ¬ escB p wh l = l := fun e => by rw [e] at h1; omega
      simp [h0, this]
  · have hu := undo_plain l (fun i hi => by
      have := cnt_zero p wh l _ h0 i hi
      unfold staysB at this
      cases hm : markB l i
      · rfl
      · rw [hm] at this; simp at this)
    unfold backB
    rw [hu]
    simp
theorem u8_is (x : UInt8) (c : UInt8) : (c == x) = ((x.toNat : Int) == (c.toNat : Int)) := by
  apply bcl
  rw [beq_iff_eq, beq_iff_eq]
  exact ⟨fun h => by rw [h], fun h => (UInt8.toNat_inj.1 (by omega)).symm⟩
theorem mark_at (s : ByteArray) (k : Nat) (h : k < s.size) : markB s.data.toList k = (((s[k]'h).toNat : Int) == 95 && (if h1 : k + 1 < s.size then (((s[k + 1]'h1).toNat : Int) == 120) else false)) := by
  have hl : k < s.data.toList.length := by simpa using h
  have e0 : s.data.toList[k]'hl = s[k]'h := rfl
  unfold markB Lib.hasPrefix
  rw [List.drop_eq_getElem_cons hl, e0]
  by_cases h1 : k + 1 < s.size
  · have hl1 : k + 1 < s.data.toList.length := by simpa using h1
    have e1 : s.data.toList[k + 1]'hl1 = s[k + 1]'h1 := rfl
    rw [List.drop_eq_getElem_cons hl1, e1, dif_pos h1]
    show (95 == s[k]'h && (120 == s[k + 1]'h1 && true)) = _
    rw [u8_is, u8_is, Bool.and_true]
    rfl
  · rw [List.drop_eq_nil_of_le (by simp; omega), dif_neg h1]
    simp [List.isPrefixOf]
set_option maxRecDepth 100000 in
set_option maxHeartbeats 3200000 in
theorem stays13_any (a : Int) (d : Bool) (s : ByteArray) (m : Int) (w : World) (hm : G0 m w) (ha : 0 ≤ a ∧ a ≤ 255) (hs : s.size ≤ 9223372036854775807) :
    Calls Try.prog 11 #[.int .u8 a, .bool d, .string s] w fun e w' => e = .returned (.bool true) ∧ Below w.heap.size w w' := by
  by_cases h100 : 100 < s.size
  · have hd100 : decide ((100 : Int) < s.size) = true := decide_eq_true (by omega)
    go_enter Try.func11, Try.ntmps11
    go_wp2_with (go_at_call 29; refine (known13_any m _ hm).mono ?_; rintro e w1 ⟨rfl, hb1⟩)
    go_ret
    exact ⟨rfl, hb1⟩
  have hd100 : decide ((100 : Int) < s.size) = false := decide_eq_false (by omega)
  cases d
  · have hcl := cntTo_le (1 + a % 4) 0 s.data.toList
    go_enter Try.func11, Try.ntmps11
    go_wp2_with (first
      | (go_at_call 29; refine (known13_any m _ hm).mono ?_; rintro e w1 ⟨rfl, hb1⟩; have hg1 := hm.bel hb1)
      | (go_at_call 30; refine (escape_any _ _ _ _ (by omega)).mono ?_; rintro e w2 ⟨rfl, hb2⟩; have hg2 := hg1.bel hb2))
    go_loopw [9, 11] (fun pn i wr => Below w.heap.size w wr ∧ G0 m wr ∧ ∃ k : Nat, k ≤ s.size ∧ i = .int .i64 k ∧ pn = .int .i64 (cntTo (1 + a % 4) 0 s.data.toList k : Nat)) (fun _ i _ => s.size - (intOf i).toNat)
    case atStart => exact ⟨bl_any hb1 hb2, hg2, 0, by omega, rfl, rfl⟩
    case round =>
      obtain ⟨hbx, hgx, k, hk, rfl, rfl⟩ := hrel
      have hck := hcl k
      by_cases hlt : k < s.size
      · have hdk : decide ((k : Int) < s.size) = true := decide_eq_true (by omega)
        have hk0 : (0 : Int) ≤ k := by omega
        have hk1 : (k : Int) < s.size := by omega
        have hmk := mark_at s k hlt
        cases hL : legalB (1 + a % 4) 0 s.data.toList k
        · go_wp2_with (go_at_call 15; refine (legal_any _ _ _ _ _ (by omega)).mono ?_; rintro e w3 ⟨rfl, hb3⟩; rw [hL])
          all_goals exact ⟨⟨bl_any (by first | exact hbx | exact bl_drewN hbx _) hb3, hgx.bel (by first | exact hb3 | assumption), k + 1, by omega, rfl, congrArg (Value.int .i64) (by (simp [cntTo, staysB, hL, hmk]))⟩, by (simp only [intOf]; omega)⟩
        · cases c1 : (((s[k]'hlt).toNat : Int) == 95)
          · rw [c1] at hmk
            go_wp2_with (go_at_call 15; refine (legal_any _ _ _ _ _ (by omega)).mono ?_; rintro e w3 ⟨rfl, hb3⟩; rw [hL])
            all_goals exact ⟨⟨bl_any (by first | exact hbx | exact bl_drewN hbx _) hb3, hgx.bel (by first | exact hb3 | assumption), k + 1, by omega, rfl, congrArg (Value.int .i64) (by (simp [cntTo, staysB, hL, hmk]))⟩, by (simp only [intOf]; omega)⟩
          · by_cases h1 : k + 1 < s.size
            · have hd1 : decide ((k : Int) + 1 < s.size) = true := decide_eq_true (by omega)
              have hk2 : (k : Int) + 1 < s.size := by omega
              rw [c1, dif_pos h1] at hmk
              cases c2 : (((s[k + 1]'h1).toNat : Int) == 120)
              · rw [c2] at hmk
                go_wp2_with (go_at_call 15; refine (legal_any _ _ _ _ _ (by omega)).mono ?_; rintro e w3 ⟨rfl, hb3⟩; rw [hL])
                all_goals exact ⟨⟨bl_any (by first | exact hbx | exact bl_drewN hbx _) hb3, hgx.bel (by first | exact hb3 | assumption), k + 1, by omega, rfl, congrArg (Value.int .i64) (by (simp [cntTo, staysB, hL, hmk]))⟩, by (simp only [intOf]; omega)⟩
              · rw [c2] at hmk
                go_wp2_with (go_at_call 15; refine (legal_any _ _ _ _ _ (by omega)).mono ?_; rintro e w3 ⟨rfl, hb3⟩; rw [hL])
                all_goals exact ⟨⟨bl_any (by first | exact hbx | exact bl_drewN hbx _) hb3, hgx.bel (by first | exact hb3 | assumption), k + 1, by omega, rfl, congrArg (Value.int .i64) (by (simp [cntTo, staysB, hL, hmk]))⟩, by (simp only [intOf]; omega)⟩
            · have hd1 : decide ((k : Int) + 1 < s.size) = false := decide_eq_false (by omega)
              rw [c1, dif_neg h1] at hmk
              go_wp2_with (go_at_call 15; refine (legal_any _ _ _ _ _ (by omega)).mono ?_; rintro e w3 ⟨rfl, hb3⟩; rw [hL])
              all_goals exact ⟨⟨bl_any (by first | exact hbx | exact bl_drewN hbx _) hb3, hgx.bel (by first | exact hb3 | assumption), k + 1, by omega, rfl, congrArg (Value.int .i64) (by (simp [cntTo, staysB, hL, hmk]))⟩, by (simp only [intOf]; omega)⟩
      · have hdk : decide ((k : Int) < s.size) = false := decide_eq_false (by omega)
        obtain rfl : k = s.size := by omega
        obtain ⟨l1, l2, l3⟩ := stays_law (1 + a % 4) 0 s.data.toList _ rfl
        rw [show s.data.toList.length = s.size from by simp] at l1 l2 l3
        generalize cntTo (1 + a % 4) 0 s.data.toList s.size = n at *
        by_cases h0 : n = 0
        · subst h0
          have hes : (⟨(escB (1 + a % 4) 0 s.data.toList).toArray⟩ : ByteArray) = s := bytes_ext _ _ (by simpa using l2)
          have hbk : (⟨(backB (1 + a % 4) 0 s.data.toList).toArray⟩ : ByteArray) = s := bytes_ext _ _ (l3 rfl)
          rw [hes]
          clear l1 l2 l3 hes
          go_wp2_with (go_at_call 32; refine (back_any _ _ _ m _ (by omega) (by first | exact hgx | assumption)).mono ?_; rintro e w2 ⟨rfl, hb2⟩; rw [hbk])
          go_ret
          exact ⟨by first | rfl | exact ret_bool (by simp [*]), by repeat (first | exact Below.refl _ _ | assumption | refine Below.drew ?_ | refine bl_drewN ?_ _ | refine bl_alloc ?_ _ | refine bl_trans ?_ (by assumption))⟩
        · have q1 : (escB (1 + a % 4) 0 s.data.toList == s.toList) = false := by (rw [ByteArray.toList_eq, l2]; simpa using h0)
          have q2 : decide ((0 : Int) < n) = true := decide_eq_true (by omega)
          have q3 : ((n : Int) == 0) = false := by (rw [beq_eq_false_iff_ne]; omega)
          have q4 : (((escB (1 + a % 4) 0 s.data.toList).length : Int) == (s.size : Int) + 3 * n) = true := by (rw [beq_iff_eq]; omega)
          clear l2 l3
          generalize escB (1 + a % 4) 0 s.data.toList = x at *
          go_wp2_with fail
          go_ret
          exact ⟨by first | rfl | exact ret_bool (by simp [*]), by repeat (first | exact Below.refl _ _ | assumption | refine Below.drew ?_ | refine bl_drewN ?_ _ | refine bl_alloc ?_ _ | refine bl_trans ?_ (by assumption))⟩
  · have hcl := cntTo_le (1 + a % 4) 1 s.data.toList
    go_enter Try.func11, Try.ntmps11
    go_wp2_with (first
      | (go_at_call 29; refine (known13_any m _ hm).mono ?_; rintro e w1 ⟨rfl, hb1⟩; have hg1 := hm.bel hb1)
      | (go_at_call 30; refine (escape_any _ _ _ _ (by omega)).mono ?_; rintro e w2 ⟨rfl, hb2⟩; have hg2 := hg1.bel hb2))
    go_loopw [9, 11] (fun pn i wr => Below w.heap.size w wr ∧ G0 m wr ∧ ∃ k : Nat, k ≤ s.size ∧ i = .int .i64 k ∧ pn = .int .i64 (cntTo (1 + a % 4) 1 s.data.toList k : Nat)) (fun _ i _ => s.size - (intOf i).toNat)
    case atStart => exact ⟨bl_any hb1 hb2, hg2, 0, by omega, rfl, rfl⟩
    case round =>
      obtain ⟨hbx, hgx, k, hk, rfl, rfl⟩ := hrel
      have hck := hcl k
      by_cases hlt : k < s.size
      · have hdk : decide ((k : Int) < s.size) = true := decide_eq_true (by omega)
        have hk0 : (0 : Int) ≤ k := by omega
        have hk1 : (k : Int) < s.size := by omega
        have hmk := mark_at s k hlt
        cases hL : legalB (1 + a % 4) 1 s.data.toList k
        · go_wp2_with (go_at_call 15; refine (legal_any _ _ _ _ _ (by omega)).mono ?_; rintro e w3 ⟨rfl, hb3⟩; rw [hL])
          all_goals exact ⟨⟨bl_any (by first | exact hbx | exact bl_drewN hbx _) hb3, hgx.bel (by first | exact hb3 | assumption), k + 1, by omega, rfl, congrArg (Value.int .i64) (by (simp [cntTo, staysB, hL, hmk]))⟩, by (simp only [intOf]; omega)⟩
        · cases c1 : (((s[k]'hlt).toNat : Int) == 95)
          · rw [c1] at hmk
            go_wp2_with (go_at_call 15; refine (legal_any _ _ _ _ _ (by omega)).mono ?_; rintro e w3 ⟨rfl, hb3⟩; rw [hL])
            all_goals exact ⟨⟨bl_any (by first | exact hbx | exact bl_drewN hbx _) hb3, hgx.bel (by first | exact hb3 | assumption), k + 1, by omega, rfl, congrArg (Value.int .i64) (by (simp [cntTo, staysB, hL, hmk]))⟩, by (simp only [intOf]; omega)⟩
          · by_cases h1 : k + 1 < s.size
            · have hd1 : decide ((k : Int) + 1 < s.size) = true := decide_eq_true (by omega)
              have hk2 : (k : Int) + 1 < s.size := by omega
              rw [c1, dif_pos h1] at hmk
              cases c2 : (((s[k + 1]'h1).toNat : Int) == 120)
              · rw [c2] at hmk
                go_wp2_with (go_at_call 15; refine (legal_any _ _ _ _ _ (by omega)).mono ?_; rintro e w3 ⟨rfl, hb3⟩; rw [hL])
                all_goals exact ⟨⟨bl_any (by first | exact hbx | exact bl_drewN hbx _) hb3, hgx.bel (by first | exact hb3 | assumption), k + 1, by omega, rfl, congrArg (Value.int .i64) (by (simp [cntTo, staysB, hL, hmk]))⟩, by (simp only [intOf]; omega)⟩
              · rw [c2] at hmk
                go_wp2_with (go_at_call 15; refine (legal_any _ _ _ _ _ (by omega)).mono ?_; rintro e w3 ⟨rfl, hb3⟩; rw [hL])
                all_goals exact ⟨⟨bl_any (by first | exact hbx | exact bl_drewN hbx _) hb3, hgx.bel (by first | exact hb3 | assumption), k + 1, by omega, rfl, congrArg (Value.int .i64) (by (simp [cntTo, staysB, hL, hmk]))⟩, by (simp only [intOf]; omega)⟩
            · have hd1 : decide ((k : Int) + 1 < s.size) = false := decide_eq_false (by omega)
              rw [c1, dif_neg h1] at hmk
              go_wp2_with (go_at_call 15; refine (legal_any _ _ _ _ _ (by omega)).mono ?_; rintro e w3 ⟨rfl, hb3⟩; rw [hL])
              all_goals exact ⟨⟨bl_any (by first | exact hbx | exact bl_drewN hbx _) hb3, hgx.bel (by first | exact hb3 | assumption), k + 1, by omega, rfl, congrArg (Value.int .i64) (by (simp [cntTo, staysB, hL, hmk]))⟩, by (simp only [intOf]; omega)⟩
      · have hdk : decide ((k : Int) < s.size) = false := decide_eq_false (by omega)
        obtain rfl : k = s.size := by omega
        obtain ⟨l1, l2, l3⟩ := stays_law (1 + a % 4) 1 s.data.toList _ rfl
        rw [show s.data.toList.length = s.size from by simp] at l1 l2 l3
        generalize cntTo (1 + a % 4) 1 s.data.toList s.size = n at *
        by_cases h0 : n = 0
        · subst h0
          have hes : (⟨(escB (1 + a % 4) 1 s.data.toList).toArray⟩ : ByteArray) = s := bytes_ext _ _ (by simpa using l2)
          have hbk : (⟨(backB (1 + a % 4) 1 s.data.toList).toArray⟩ : ByteArray) = s := bytes_ext _ _ (l3 rfl)
          rw [hes]
          clear l1 l2 l3 hes
          go_wp2_with (go_at_call 32; refine (back_any _ _ _ m _ (by omega) (by first | exact hgx | assumption)).mono ?_; rintro e w2 ⟨rfl, hb2⟩; rw [hbk])
          go_ret
          exact ⟨by first | rfl | exact ret_bool (by simp [*]), by repeat (first | exact Below.refl _ _ | assumption | refine Below.drew ?_ | refine bl_drewN ?_ _ | refine bl_alloc ?_ _ | refine bl_trans ?_ (by assumption))⟩
        · have q1 : (escB (1 + a % 4) 1 s.data.toList == s.toList) = false := by (rw [ByteArray.toList_eq, l2]; simpa using h0)
          have q2 : decide ((0 : Int) < n) = true := decide_eq_true (by omega)
          have q3 : ((n : Int) == 0) = false := by (rw [beq_eq_false_iff_ne]; omega)
          have q4 : (((escB (1 + a % 4) 1 s.data.toList).length : Int) == (s.size : Int) + 3 * n) = true := by (rw [beq_iff_eq]; omega)
          clear l2 l3
          generalize escB (1 + a % 4) 1 s.data.toList = x at *
          go_wp2_with fail
          go_ret
          exact ⟨by first | rfl | exact ret_bool (by simp [*]), by repeat (first | exact Below.refl _ _ | assumption | refine Below.drew ?_ | refine bl_drewN ?_ _ | refine bl_alloc ?_ _ | refine bl_trans ?_ (by assumption))⟩
end Go.Proofs.Ytdhkfbobfjkclaa
