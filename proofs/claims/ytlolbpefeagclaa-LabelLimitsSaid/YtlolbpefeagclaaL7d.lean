/- LabelLimits: as many of a unit. -/
import Derived.Test.YtlolbpefeagclaaL7b
import Derived.Lib.ConvBytes
namespace Go.Proofs.Ytlolbpefeagclaa
open Go.RowKit
def unitU (d : Bool) : List UInt8 := if d then [195, 169] else [97]
def repU (d : Bool) (m : Nat) : List UInt8 := (List.replicate m (unitU d)).flatten
def cU (d : Bool) : Nat := if d then 2 else 1
theorem repU_succ (d : Bool) (m : Nat) : repU d (m + 1) = repU d m ++ unitU d := by
  unfold repU; rw [List.replicate_succ', List.flatten_append]; simp
theorem repU_len (d : Bool) (m : Nat) : (repU d m).length = m * cU d := by
  induction m with
  | zero => simp [repU]
  | succ m ih => rw [repU_succ, List.length_append, ih, Nat.add_mul]; cases d <;> simp [unitU, cU]
theorem repU_at (d : Bool) : ∀ (m j : Nat), j < m * cU d → (repU d m).getD j 0 = if d then (if j % 2 = 0 then 195 else 169) else 97
  | 0, j, h => by simp at h
  | m + 1, j, h => by
    rw [repU_succ, List.getD_eq_getElem?_getD]
    by_cases hj : j < m * cU d
    · rw [List.getElem?_append_left (by rw [repU_len]; exact hj), ← List.getD_eq_getElem?_getD]
      exact repU_at d m j hj
    · rw [List.getElem?_append_right (by rw [repU_len]; omega), repU_len]
      rw [Nat.add_mul] at h
      cases d
      · simp only [cU, Bool.false_eq_true, if_false, Nat.mul_one] at h hj ⊢
        have : j - m = 0 := by omega
        rw [this]; rfl
      · simp only [cU, if_true] at h hj ⊢
        rcases (by omega : j = m * 2 ∨ j = m * 2 + 1) with rfl | rfl
        · have : m * 2 - m * 2 = 0 := by omega
          rw [this, if_pos (by omega)]; rfl
        · have : m * 2 + 1 - m * 2 = 1 := by omega
          rw [this, if_neg (by omega)]; rfl
theorem repU_bt (d : Bool) (m j : Nat) (h : j < m * cU d) : bt (repU d m) j = if d then (if j % 2 = 0 then 195 else 169) else 97 := by
  unfold bt
  rw [repU_at d m j h]
  cases d
  · rfl
  · simp only [if_true]; split <;> rfl
theorem front_rep (d : Bool) (m i : Nat) (h : i < m) : frontU (repU d m) (i * cU d) = (cU d, true) := by
  cases d
  · have hb : bt (repU false m) (i * 1) = 97 := repU_bt false m (i * 1) (by simpa [cU] using h)
    show frontU (repU false m) (i * 1) = (1, true)
    unfold frontU
    rw [hb]
    rfl
  · have h0 : bt (repU true m) (i * 2) = 195 := by
      rw [repU_bt true m (i * 2) (by simp only [cU, if_true]; omega), if_pos rfl, if_pos (by omega)]
    have h1 : bt (repU true m) (i * 2 + 1) = 169 := by
      rw [repU_bt true m (i * 2 + 1) (by simp only [cU, if_true]; omega), if_pos rfl, if_neg (by omega)]
    have ht : tailB (repU true m) (i * 2) 1 = true := by
      unfold tailB
      rw [h0, h1, decide_eq_true (show i * 2 + 1 < (repU true m).length by rw [repU_len]; simp only [cU, if_true]; omega)]
      rfl
    show frontU (repU true m) (i * 2) = (2, true)
    unfold frontU
    rw [h0]
    show (if (2 : Nat) = 0 then (0, false) else frGo (repU true m) (i * 2) 2 4 1) = (2, true)
    rw [if_neg (by decide), frGo_yes _ _ _ _ _ (by decide) ht]
    rfl
theorem bad_rep (d : Bool) (m : Nat) : badU (repU d m) = -1 := by
  have h : ∀ f i, i ≤ m → badGo (repU d m) f (i * cU d) = -1 := by
    intro f
    induction f with
    | zero => intro i _; rfl
    | succ f ih =>
      intro i hi
      rw [badGo]
      split
      · rename_i hlt
        rw [repU_len] at hlt
        have him : i < m := Nat.lt_of_mul_lt_mul_right hlt
        rw [front_rep d m i him]
        simp only [if_true]
        rw [show i * cU d + cU d = (i + 1) * cU d by rw [Nat.add_mul, Nat.one_mul]]
        exact ih (i + 1) (by omega)
      · rfl
  have := h (repU d m).length 0 (Nat.zero_le _)
  rw [Nat.zero_mul] at this
  exact this
theorem ink_rep (d : Bool) (m : Nat) : inkB (repU d m) = true := by
  rw [inkB_iff]
  intro j hj
  rw [repU_len] at hj
  rw [repU_bt d m j hj]
  cases d
  · exact ⟨(by decide : (32 : Int) ≤ 97), (by decide : (97 : Int) ≠ 127)⟩
  · simp only [if_true]; split <;> decide
theorem name_rep (d : Bool) (m : Nat) : nameB (repU d m) = decide (1 ≤ (repU d m).length ∧ (repU d m).length ≤ 60) := by
  unfold nameB
  rw [ink_rep, bad_rep, Bool.true_and, decide_eq_true (show (-1 : Int) < 0 by decide), Bool.and_true, ← Bool.decide_and]
  refine decide_eq_decide.2 ⟨fun h => ⟨?_, h.2⟩, fun h => ⟨?_, h.2⟩⟩
  · rcases Nat.eq_zero_or_pos (repU d m).length with h0 | h0
    · exact absurd (List.length_eq_zero_iff.1 h0) h.1
    · exact h0
  · intro h0; rw [h0] at h; simp at h
theorem val_rep (d : Bool) (m : Nat) : valB (repU d m) = decide ((repU d m).length ≤ 60) := by
  unfold valB
  rw [bad_rep, decide_eq_true (show (-1 : Int) < 0 by decide), Bool.and_true]
/-! ### labels a, b, c .. of one value -/
def nthB (i : Nat) : ByteArray := ⟨#[UInt8.ofNat (97 + i)]⟩
def nthL (V : ByteArray) (i : Nat) : Lab := (nthB i, V)
def manyL (V : ByteArray) (k : Nat) : List Lab := (List.range k).map (nthL V)
theorem manyL_succ (V : ByteArray) (k : Nat) : manyL V (k + 1) = manyL V k ++ [nthL V k] := by
  unfold manyL; rw [List.range_succ, List.map_append]; rfl
theorem manyL_len (V : ByteArray) (k : Nat) : (manyL V k).length = k := by simp [manyL]
theorem manyL_at (V : ByteArray) (k i : Nat) (h : i < k) : (manyL V k).getD i default = nthL V i := by
  unfold manyL
  rw [List.getD_eq_getElem?_getD, List.getElem?_map, List.getElem?_range h]; rfl
theorem name_nth : ∀ i : Nat, i < 11 → nameB [UInt8.ofNat (97 + i)] = true := by
  intro i hi
  match i, hi with
  | 0, _ | 1, _ | 2, _ | 3, _ | 4, _ | 5, _ | 6, _ | 7, _ | 8, _ | 9, _ | 10, _ => decide +kernel
theorem lt_nth : ∀ i : Nat, 1 ≤ i → i < 11 → [UInt8.ofNat (97 + (i - 1))] < [UInt8.ofNat (97 + i)] := by
  intro i h1 hi
  match i, hi with
  | 1, _ | 2, _ | 3, _ | 4, _ | 5, _ | 6, _ | 7, _ | 8, _ | 9, _ | 10, _ => decide
theorem good_many (V : ByteArray) (k : Nat) (hk : k < 11) : goodL (manyL V k) = decide (k ≤ 8 ∧ (k = 0 ∨ valB V.data.toList = true)) := by
  cases hv : valB V.data.toList
  · by_cases h0 : k = 0
    · subst h0; rfl
    · have : goodAt (manyL V k) 0 = false := by
        unfold goodAt
        rw [manyL_at V k 0 (by omega)]
        show (nameB (nmL (nthL V 0)) && (valB V.data.toList && _)) = false
        rw [hv]; simp
      unfold goodL
      rw [goodTo_false this (by rw [manyL_len]; omega), Bool.false_and]
      exact (decide_eq_false (by simp; omega)).symm
  · have hall : ∀ j, j ≤ k → goodTo (manyL V k) j = true := by
      intro j
      induction j with
      | zero => intro _; rfl
      | succ j ih =>
        intro hj
        rw [goodTo_succ, ih (by omega), Bool.true_and]
        unfold goodAt
        rw [manyL_at V k j (by omega)]
        show (nameB [UInt8.ofNat (97 + j)] && (valB V.data.toList && (decide (j = 0) || decide (nmL ((manyL V k).getD (j - 1) default) < [UInt8.ofNat (97 + j)])))) = true
        rw [name_nth j (by omega), hv]
        by_cases h0 : j = 0
        · subst h0; rfl
        · rw [manyL_at V k (j - 1) (by omega)]
          show (true && (true && (decide (j = 0) || decide ([UInt8.ofNat (97 + (j - 1))] < [UInt8.ofNat (97 + j)])))) = true
          rw [decide_eq_true (lt_nth j (by omega) (by omega))]
          simp
    unfold goodL
    rw [manyL_len, hall k (Nat.le_refl _), Bool.true_and]
    exact decide_eq_decide.2 ⟨fun h => ⟨h, .inr rfl⟩, fun h => h.1⟩
theorem k7_ba : goodL [(⟨#[98]⟩, ⟨#[]⟩), ((⟨#[97]⟩, ⟨#[]⟩) : Lab)] = false := by decide +kernel
theorem k7_aa : goodL [(⟨#[97]⟩, ⟨#[]⟩), ((⟨#[97]⟩, ⟨#[]⟩) : Lab)] = false := by decide +kernel
theorem conv_one (W : World) (x : UInt8) : (convert 41 9 (.slice (some ⟨W.heap.size, 0, none⟩) 1 1)).run Try.prog (W.alloc (.cells #[.int .u8 (x.toNat : Int)] 5)) = .ok (.string ⟨#[x]⟩) (W.alloc (.cells #[.int .u8 (x.toNat : Int)] 5)) := by
  have h1 : Try.prog.underlying 41 = some (.slice 5) := by kernel_rfl
  have h2 : Try.prog.underlying 5 = some (.int .u8) := by kernel_rfl
  have h3 : Try.prog.underlying 9 = some .string := by kernel_rfl
  exact run_convert_bytes_back (P := Try.prog) (W.alloc (.cells #[.int .u8 (x.toNat : Int)] 5)) _ _ _ ⟨W.heap.size, 0, none⟩ 1 [x] h1 h2 h3 fun j hj => by
    have hj0 : j = 0 := by simpa using hj
    subst hj0
    have h4 : (⟨W.heap.size, 0, none⟩ : Addr).add 0 = ⟨W.heap.size, 0, none⟩ := by unfold Addr.add; split <;> simp_all
    rw [h4, (Blk.new W _ _).cell 0]
    rfl
theorem k7_DD (w : World) (b : Nat) (h : b = w.heap.size) (x y : ByteArray) (hxy : goodL [(x, ⟨#[]⟩), ((y, ⟨#[]⟩) : Lab)] = false) (hx : x.size ≤ 100) (hy : y.size ≤ 100) : Calls Try.prog 18 #[.slice (some ⟨b, 0, none⟩) 2 2] (w.alloc (.cells #[.string x, .string ⟨#[]⟩, .string y, .string ⟨#[]⟩] 38)) fun e w' => e = .returned (.bool false) ∧ Below w.heap.size w w' := by
  subst h
  have h := good_any _ 2 2 [(x, ⟨#[]⟩), (y, ⟨#[]⟩)] _ (IsRows.made (f := labCell) (size := 2) (fun _ => rfl) w 38 #[.string x, .string ⟨#[]⟩, .string y, .string ⟨#[]⟩] [(x, ⟨#[]⟩), (y, ⟨#[]⟩)] rfl) (by decide) (by
    intro z hz
    simp at hz
    rcases hz with rfl | rfl
    · exact ⟨Nat.le_trans hx (by decide), (by decide : (0 : Nat) ≤ 1048576)⟩
    · exact ⟨Nat.le_trans hy (by decide), (by decide : (0 : Nat) ≤ 1048576)⟩)
  rw [hxy] at h
  exact h.mono fun e w' ⟨h1, h2⟩ => ⟨h1, bl_any (bl_alloc (Below.refl _ _) _) h2⟩
end Go.Proofs.Ytlolbpefeagclaa
