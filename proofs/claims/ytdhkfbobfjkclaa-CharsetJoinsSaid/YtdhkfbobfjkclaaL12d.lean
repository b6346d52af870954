/- CharsetJoins: the plain law, and its walk. -/
import Derived.Test.YtdhkfbobfjkclaaL12a
namespace Go.Proofs.Ytdhkfbobfjkclaa
open Go.RowKit
/-! ### the plain law -/
theorem badFrom_neg (p wh : Int) (l : List UInt8) : ∀ n i, badFrom p wh l n i < 0 ↔ ∀ k, i ≤ k → k < i + n → legalB p wh l k = true := by
  intro n
  induction n with
  | zero => intro i; simp only [badFrom]; constructor
            · intro _ k h1 h2; omega
            · intro _; omega
  | succ n ih =>
    intro i
    unfold badFrom
    by_cases h : legalB p wh l i = true
    · rw [if_pos h, ih]
      constructor
      · intro hh k h1 h2
        by_cases e : k = i
        · subst e; exact h
        · exact hh k (by omega) (by omega)
      · intro hh k h1 h2; exact hh k (by omega) (by omega)
    · rw [if_neg h]
      constructor
      · intro hh; omega
      · intro hh; exact absurd (hh i (by omega) (by omega)) h
theorem badB_neg (p wh : Int) (l : List UInt8) : badB p wh l < 0 ↔ ∀ k : Nat, k < l.length → legalB p wh l k = true := by
  unfold badB; rw [badFrom_neg]; simp
theorem bt_append_left (a b : List UInt8) (i : Nat) (h : i < a.length) : bt (a ++ b) i = bt a i := by
  unfold bt; rw [List.getD_eq_getElem?_getD, List.getD_eq_getElem?_getD, List.getElem?_append_left h]
theorem bt_append_right (a b : List UInt8) (i : Nat) (h : a.length ≤ i) : bt (a ++ b) i = bt b (i - a.length) := by
  unfold bt; rw [List.getD_eq_getElem?_getD, List.getD_eq_getElem?_getD, List.getElem?_append_right h]
/-- A legal name's byte is legal in what it becomes together with another one. -/
theorem legal_join_left (p wh : Int) (a b : List UInt8) (k : Nat) (h : k < a.length) (hl : legalB p wh a k = true) : legalB p wh (a ++ b) k = true := by
  have e := bt_append_left a b k h
  have e' : 0 < k → bt (a ++ b) (k - 1) = bt a (k - 1) := fun h0 => bt_append_left a b (k - 1) (by omega)
  simp only [legalB, lineB, pointB, decide_eq_true_eq, Int.toNat_natCast, e, List.length_append] at hl ⊢
  have e2 : ((k : Int)).toNat - 1 = k - 1 := by simp
  obtain ⟨h0, h1, hw, hc⟩ := hl
  refine ⟨h0, by omega, hw, ?_⟩
  rcases hc with hc | hc | ⟨hp, hc⟩ | hc
  · exact .inl hc
  · exact .inr (.inl hc)
  · refine .inr (.inr (.inl ⟨hp, ?_⟩))
    rcases hc with hc | hc | hc | hc | ⟨hc, hw0, g1, g2, g3⟩
    · exact .inl hc
    · exact .inr (.inl hc)
    · exact .inr (.inr (.inl hc))
    · exact .inr (.inr (.inr (.inl hc)))
    · exact .inr (.inr (.inr (.inr ⟨hc, hw0, g1, by omega, by rw [e' (by omega)]; exact g3⟩)))
  · exact .inr (.inr (.inr hc))
theorem letterB_mono (c : Int) (d : Bool) (h : letterB c d = true) : letterB c true = true := by
  simp only [letterB, Bool.or_eq_true, Bool.and_eq_true, decide_eq_true_eq, true_and] at h ⊢
  rcases h with h | h
  · exact .inl h
  · exact .inr h.2
theorem legal_join_right (p wh : Int) (a b : List UInt8) (k : Nat) (ha : a ≠ []) (h : k < b.length) (hl : legalB p wh b k = true) : legalB p wh (a ++ b) ((a.length + k : Nat) : Int) = true := by
  have hlen : 0 < a.length := List.length_pos_iff.2 ha
  have e : bt (a ++ b) (a.length + k) = bt b k := by rw [bt_append_right _ _ _ (by omega)]; congr 1; omega
  have e' : 0 < k → bt (a ++ b) (a.length + k - 1) = bt b (k - 1) := fun h0 => by rw [bt_append_right _ _ _ (by omega)]; congr 1; omega
  simp only [legalB, lineB, pointB, decide_eq_true_eq, Int.toNat_natCast, e, List.length_append] at hl ⊢
  obtain ⟨h0, h1, hw, hc⟩ := hl
  refine ⟨by omega, by omega, hw, ?_⟩
  rcases hc with ⟨hp, hc⟩ | ⟨hp, g0, g1, g2, g3⟩ | ⟨hp, hc⟩ | hc
  · refine .inl ⟨hp, ?_⟩
    rcases hc with hc | hc | hc
    · left
      have hd : decide (0 < ((a.length + k : Nat) : Int)) = true := decide_eq_true (by omega)
      rw [hd]; exact letterB_mono _ _ hc
    · exact .inr (.inl hc)
    · exact .inr (.inr hc)
  · exact .inr (.inl ⟨hp, g0, g1, g2, by omega⟩)
  · refine .inr (.inr (.inl ⟨hp, ?_⟩))
    rcases hc with hc | hc | hc | hc | ⟨hc, hw0, g1, g2, g3⟩
    · exact .inl hc
    · exact .inr (.inl hc)
    · exact .inr (.inr (.inl hc))
    · exact .inr (.inr (.inr (.inl hc)))
    · exact .inr (.inr (.inr (.inr ⟨hc, hw0, by omega, by omega, by rw [e' (by omega)]; exact g3⟩)))
  · exact .inr (.inr (.inr hc))
theorem join_is (p wh : Int) (a b : List UInt8) (ha : isB p wh a = true) (hb : isB p wh b = true) : isB p wh (a ++ b) = decide (a.length + b.length ≤ 60) := by
  apply bcl
  simp only [isB, decide_eq_true_eq, badB_neg] at ha hb ⊢
  obtain ⟨a0, a1, a2⟩ := ha
  obtain ⟨b0, b1, b2⟩ := hb
  constructor
  · rintro ⟨_, h, _⟩; simpa using h
  · intro h
    refine ⟨by simp [a0], by simpa using h, ?_⟩
    intro k hk
    by_cases hka : k < a.length
    · exact legal_join_left _ _ _ _ _ hka (a2 k hka)
    · have := legal_join_right p wh a b (k - a.length) a0 (by simp at hk; omega) (b2 (k - a.length) (by simp at hk; omega))
      rw [show a.length + (k - a.length) = k from by omega] at this
      exact this

/-! ### the walk -/
def zero61 : List UInt8 := List.replicate 61 0
theorem is_nil (p wh : Int) : isB p wh [] = false := by simp [isB]
theorem is_long (p wh : Int) (l : List UInt8) (h : 60 < l.length) : isB p wh l = false := by
  simp only [isB, decide_eq_false_iff_not]; omega
theorem bad_nil (p wh : Int) : badB p wh [] = -1 := rfl

theorem isB_dec (p wh : Int) (s : ByteArray) : isB p wh s.data.toList = decide (1 ≤ s.size ∧ s.size ≤ 60 ∧ badB p wh s.data.toList < 0) := by
  unfold isB; rw [← Lib.size_eq]; apply decide_eq_decide.2; rw [list_ne]
def Z61 : Array Value := Array.replicate 61 (.int .u8 0)
def Z61s : ByteArray := strOfNums (List.replicate 61 0)
theorem Z61s_size : Z61s.size = 61 := by decide
theorem Z61s_len : Z61s.data.toList.length = 61 := by decide
theorem make61 (W : World) : (Instr.makeSlice 27 (.int .i64 61) (.int .i64 61)).run Try.prog W = .ok (.slice (some ⟨W.heap.size, 0, none⟩) 61 61) (W.alloc (.cells Z61 5)) := by kernel_rfl
theorem conv61 (W : World) : (convert 27 9 (.slice (some ⟨W.heap.size, 0, none⟩) 61 61)).run Try.prog (W.alloc (.cells Z61 5)) = .ok (.string Z61s) (W.alloc (.cells Z61 5)) := by
  rw [run_convert_bytes_arg _ 27 5 Try.underlying27 Try.underlying5 W.heap.size 0 61 61 (List.replicate 61 0) (by simp) (by
    intro i hi
    rw [World.cell?_alloc_at _ _ _ _ rfl, Nat.zero_add, List.getD_eq_getElem?_getD, List.getElem?_replicate, if_pos hi]
    simp [Z61, hi]) _ Try.underlying9]
  rfl

set_option maxHeartbeats 1600000 in
theorem joins12_any (pr : Int) (a b : ByteArray) (d : Bool) (w : World) (h0 : 0 ≤ pr) (h1 : pr ≤ 255) (ha : a.size ≤ 9223372036854775807) (hb : b.size ≤ 9223372036854775807) :
    Calls Try.prog 5 #[.int .u8 pr, .string a, .string b, .bool d] w fun e w' => e = .returned (.bool true) ∧ Below w.heap.size w w' := by
  by_cases ha80 : 80 < a.size
  · go_enter Try.func5, Try.ntmps5
    go_wp2_with (go_at_call 14; refine (known12_any _).mono ?_; rintro e w1 ⟨rfl, hb1⟩)
    go_ret
    exact ⟨rfl, by repeat (first | exact Below.refl _ _ | assumption | refine bl_trans ?_ (by assumption))⟩
  by_cases hb80 : 80 < b.size
  · go_enter Try.func5, Try.ntmps5
    go_wp2_with (go_at_call 14; refine (known12_any _).mono ?_; rintro e w1 ⟨rfl, hb1⟩)
    go_ret
    exact ⟨rfl, by repeat (first | exact Below.refl _ _ | assumption | refine bl_trans ?_ (by assumption))⟩
  have sa : a.size ≤ 80 := by omega
  have sb : b.size ≤ 80 := by omega
  clear ha80 hb80
  have m61 := make61
  have c61 := conv61
  have zs := Z61s_size
  have en := is_nil
  have el : ∀ p wh, isB p wh Z61s.data.toList = false := fun p wh => is_long _ _ _ (by rw [Z61s_len]; omega)
  have eb := bad_nil
  have Hj : Hid (∀ p wh, isB p wh a.data.toList = true → isB p wh b.data.toList = true → isB p wh (a.data.toList ++ b.data.toList) = decide ((a.size : Int) + b.size ≤ 60)) := fun p wh h1 h2 => by
    rw [join_is p wh _ _ h1 h2, ← Lib.size_eq, ← Lib.size_eq]; apply decide_eq_decide.2; omega
  cases d
  all_goals
    go_enter Try.func5, Try.ntmps5
    go_wp2_with (first
      | (go_at_call 14; refine (known12_any _).mono ?_; rintro e w1 ⟨rfl, hb1⟩)
      | (go_at_call 17; refine (is_any _ _ _ _ ?_).mono ?_; (first | assumption | omega | decide | (simp; omega)); rintro e w1 ⟨rfl, hb1⟩)
      | (go_at_call 19; refine (bad_any _ _ _ _ ?_).mono ?_; (first | assumption | omega | decide | (simp; omega)); rintro e w1 ⟨rfl, hb1⟩))
    all_goals go_ret
    all_goals refine ⟨ret_bool ?_, by repeat (first | exact Below.refl _ _ | assumption | refine Below.drew ?_ | refine bl_alloc ?_ _ | refine bl_trans ?_ (by assumption))⟩
    all_goals first | exact rfl | (rw [Hj.out _ _ (by assumption) (by simp_all)]; simp; done) | (rw [isB_dec] at *; simp_all; done) | (simp only [isB_dec] at *; simp_all; omega) | trace_state
end Go.Proofs.Ytdhkfbobfjkclaa
