/- The walk of LabelSorts. -/
import Derived.Test.YtlolbpefeagclaaL7b
namespace Go.Proofs.Ytlolbpefeagclaa
set_option linter.unusedVariables false
set_option linter.unusedSimpArgs false
open Go.RowKit
attribute [local go_sem ↓] Go.wp_at_zero Go.wp_at_succ
theorem sortL_sorted {L : List Lab} (hd : distinct L = true) : ∃ S, sortL L = some S ∧ SortedOf L S := by
  have hm := List.pairwise_mergeSort (le := fun a b : Lab => decide (nmL a ≤ nmL b)) (fun a b c h k => by
    simp only [decide_eq_true_eq] at h k ⊢; exact List.le_trans h k) (fun a b => by
    simp only [Bool.or_eq_true, decide_eq_true_eq]; exact List.le_total _ _) L
  have hp := List.mergeSort_perm L fun x y => decide (nmL x ≤ nmL y)
  have hn : ((L.mergeSort fun x y => decide (nmL x ≤ nmL y)).map nmL).Nodup := ((hp.map nmL).nodup_iff).2 (of_decide_eq_true hd)
  unfold List.Nodup at hn
  rw [List.pairwise_map] at hn
  have h3 : (L.mergeSort fun x y => decide (nmL x ≤ nmL y)).Pairwise fun x y => nmL x < nmL y := (hm.and hn).imp fun ⟨q, r⟩ => by
    rcases bs3 _ _ with k | k | k
    · exact k
    · exact absurd k r
    · exact absurd (of_decide_eq_true q) (List.not_le.2 k)
  exact ⟨_, sortL_some ⟨hp, h3⟩, hp, h3⟩
theorem sortL_turn {L S : List Lab} (h : SortedOf L S) (k : Nat) : sortL (L.drop k ++ L.take k) = some S := by
  refine sortL_some ⟨h.1.trans ?_, h.2⟩
  have := (List.perm_append_comm (l₁ := L.take k) (l₂ := L.drop k))
  rwa [List.take_append_drop] at this
theorem sortL_more {L : List Lab} {k : Nat} {x y z : ByteArray} (hk : L[k]? = some (x, y)) : sortL (L ++ [(x, z)]) = none := by
  have h1 := (List.getElem?_eq_some_iff.1 hk).1
  refine sortL_none (distinct_two (i := k) (j := L.length) h1 (by simp) ?_)
  rw [List.getD_eq_getElem?_getD, List.getD_eq_getElem?_getD, List.getElem?_append_left h1, hk, List.getElem?_append_right (Nat.le_refl _)]
  simp [nmL]
theorem get_sorted {L S : List Lab} (h : SortedOf L S) {i : Nat} {x y : ByteArray} (hi : S[i]? = some (x, y)) : getL L x.data.toList = some (x, y) := by
  have hm : (x, y) ∈ L := h.1.mem_iff.1 (List.mem_of_getElem? hi)
  have hn : (L.map nmL).Nodup := ((h.1.map nmL).nodup_iff).1 (pw_nodup h.2)
  clear h hi
  induction L with
  | nil => cases hm
  | cons a L ih =>
    rw [getL, List.find?_cons]
    rw [List.map_cons, List.nodup_cons] at hn
    rcases List.mem_cons.1 hm with rfl | hm2
    · have : (nmL (x, y) == x.data.toList) = true := beq_self_eq_true _
      rw [this]
    · have : (nmL a == x.data.toList) = false := by
        rw [beq_eq_false_iff_ne]
        intro e
        exact hn.1 (e ▸ (List.mem_map.2 ⟨(x, y), hm2, rfl⟩ : x.data.toList ∈ L.map nmL))
      rw [this]
      exact ih hm2 hn.2
def rowT (L : List Lab) (i j : Nat) : Bool := (List.range j).any fun k => nmL (L.getD i default) == nmL (L.getD k default)
def allT (L : List Lab) (i : Nat) : Bool := (List.range i).any fun i => rowT L i i
theorem rowT_succ (L : List Lab) (i j : Nat) : rowT L i (j + 1) = (rowT L i j || (nmL (L.getD i default) == nmL (L.getD j default))) := by
  unfold rowT; rw [List.range_succ, List.any_append]; simp
theorem allT_succ (L : List Lab) (i : Nat) : allT L (i + 1) = (allT L i || rowT L i i) := by
  unfold allT; rw [List.range_succ, List.any_append]; simp
theorem allT_all (L : List Lab) : allT L L.length = !distinct L := by
  cases hd : distinct L
  · unfold distinct at hd
    rw [decide_eq_false_iff_not] at hd
    cases ha : allT L L.length
    · exfalso
      apply hd
      unfold List.Nodup
      rw [List.pairwise_map, List.pairwise_iff_getElem]
      intro i j hi hj hij e
      have e0 : ∀ k (hk : k < L.length), L.getD k default = L[k] := fun k hk => by rw [List.getD_eq_getElem?_getD, List.getElem?_eq_getElem hk]; rfl
      unfold allT at ha
      rw [List.any_eq_false] at ha
      have h1 := ha j (List.mem_range.2 hj)
      apply h1
      unfold rowT
      rw [List.any_eq_true]
      exact ⟨i, List.mem_range.2 hij, by rw [e0 j hj, e0 i hi]; exact beq_iff_eq.2 e.symm⟩
    · rfl
  · cases ha : allT L L.length
    · rfl
    · exfalso
      unfold allT at ha
      rw [List.any_eq_true] at ha
      obtain ⟨j, hj, h1⟩ := ha
      unfold rowT at h1
      rw [List.any_eq_true] at h1
      obtain ⟨i, hi, h2⟩ := h1
      have := distinct_two (L := L) (List.mem_range.1 hi) (List.mem_range.1 hj) (beq_iff_eq.1 h2).symm
      rw [hd] at this; cases this
theorem neqLab (a0 a1 b0 b1 : ByteArray) (w : World) : (binOp .neq 38 (.agg #[.string a0, .string a1]) (.agg #[.string b0, .string b1])).run Try.prog w = .ok (.bool (!(a0.toList == b0.toList && a1.toList == b1.toList))) w := by
  cases h0 : (a0.toList == b0.toList) <;> cases h1 : (a1.toList == b1.toList) <;> simp only [beq_iff_eq, beq_eq_false_iff_ne] at h0 h1 <;> simp [go_sem, h0, h1]
theorem sortE_S {L S : List Lab} {n : Nat} (h : sortL L = some S) (hn : L.length = n) (e : Ending) (w' : World) (he : SortE L e w') : ∃ A cap, e = .returned (.tuple #[.slice A n cap, .bool true]) ∧ IsRows labCell 2 w' w'.heap.size A n S := by
  obtain ⟨A, n', cap, rfl, hr, _⟩ := he
  rw [h] at hr
  have h1 : n' = n := by rw [← hr.1, ← hn]; exact (sortL_perm h).length_eq
  subst h1
  exact ⟨A, cap, by rw [h]; rfl, hr⟩
theorem sortE_N {L : List Lab} (h : sortL L = none) (e : Ending) (w' : World) (he : SortE L e w') : ∃ A cap, e = .returned (.tuple #[.slice A 0 cap, .bool false]) := by
  obtain ⟨A, n', cap, rfl, hr, _⟩ := he
  rw [h] at hr
  have h1 : n' = 0 := hr.1.symm
  subst h1
  exact ⟨A, cap, by rw [h]; rfl⟩
set_option maxRecDepth 100000 in
set_option maxHeartbeats 6400000 in
theorem sorts7_any (A : Option Addr) (n cap : Nat) (L : List Lab) (turn : Int) (w : World) (hl : IsRows labCell 2 w w.heap.size A n L) (hn : n ≤ cap ∧ cap ≤ 9223372036854775807) (ht : 0 ≤ turn ∧ turn ≤ 255) :
    Calls Try.prog 4 #[.slice A n cap, .int .u8 turn] w fun e w' => e = .returned (.bool true) ∧ Below w.heap.size w w' := by
  cases hsa : shortB L
  · go_enter Try.func4, Try.ntmps4
    go_wp2_with (first
      | (go_at_call 7; refine (known7_any _).mono ?_; rintro e w1 ⟨rfl, hb1⟩)
      | (go_at_call 8; refine (short_any A n cap L _ (hl.step hb1) (by omega)).mono ?_; rintro e w2 ⟨rfl, rfl⟩; rw [hsa]))
    go_ret
    exact ⟨rfl, hb1⟩
  obtain ⟨_, hna⟩ := shortB_all hsa
  have hll := hl.1
  have hn20 : n ≤ 20 := by omega
  clear hna
  have kS := fun W h => sort_any A n cap L W h (by omega)
  have HT := Lib.hid (allT_all L)
  cases hd : distinct L
  · have hno := sortL_none hd
    have kS1 := fun W h => (kS W h).mono fun e w' ⟨h1, h2⟩ => And.intro (sortE_N hno e w' h1) h2
    have HE : Hid (allT L n = true) := Lib.hid (by have := HT.out; rw [hll, hd] at this; exact this)
    clear kS hno HT
    go_enter Try.func4, Try.ntmps4
    go_wp2_with (first
      | (go_at_call 7; refine (known7_any _).mono ?_; rintro e w1 ⟨rfl, hb1⟩; have hl1 := hl.step hb1)
      | (go_at_call 8; refine (short_any A n cap L _ hl1 (by omega)).mono ?_; rintro e w2 ⟨rfl, rfl⟩; rw [hsa])
      | (go_at_call 9; refine (kS1 _ hl1).mono ?_; rintro e w2 ⟨⟨As, cs, rfl⟩, hb2⟩))
    have hb0 := bl_any hb1 hb2
    clear kS1 hl1
    go_loopw [7, 8] (fun a i wr => Below w.heap.size w wr ∧ True ∧ ∃ (a0 : Bool) (i0 : Nat), i0 ≤ n ∧ a = .bool a0 ∧ i = .int .i64 i0 ∧ Hid (a0 = allT L i0)) (fun _ i _ => n - (intOf i).toNat)
    case atStart => exact ⟨hb0, trivial, false, 0, by omega, rfl, rfl, Lib.hid rfl⟩
    case round =>
      obtain ⟨wo, rfl⟩ : ∃ wo, wo = wr := ⟨_, rfl⟩
      obtain ⟨hbw, hex, a0, i, hi, rfl, rfl, HA⟩ := hrel
      by_cases hlt : i < n
      · have hdi : decide ((i : Int) < n) = true := decide_eq_true (by omega)
        have hi0 : (0 : Int) ≤ i := by omega
        have hi1 : (i : Int) < n := by omega
        obtain ⟨b, off, x, y, rfl, hgb, hx, e0, _⟩ := lab_at hl hlt
        have ex : L.getD i default = (x, y) := by rw [List.getD_eq_getElem?_getD, hx]; rfl
        have EX := Lib.hid ex
        clear ex
        go_wp2_with fail
        go_loopw [7, 9] (fun a j wr => Below w.heap.size w wr ∧ True ∧ ∃ (a0 : Bool) (j0 : Nat), j0 ≤ i ∧ a = .bool a0 ∧ j = .int .i64 j0 ∧ Hid (a0 = (allT L i || rowT L i j0))) (fun _ j _ => i - (intOf j).toNat)
        case atStart => exact ⟨hbw, hex, a0, 0, by omega, rfl, rfl, Lib.hid (by rw [HA.out]; simp [rowT])⟩
        case round =>
          clear HA hex
          obtain ⟨wy, rfl⟩ : ∃ wy, wy = wr := ⟨_, rfl⟩
          obtain ⟨hbz, hex, a0, j, hj, rfl, rfl, HA⟩ := hrel
          by_cases hltj : j < i
          · have hdj : decide ((j : Int) < i) = true := decide_eq_true (by omega)
            have hj0 : (0 : Int) ≤ j := by omega
            have hj1 : (j : Int) < n := by omega
            obtain ⟨b2, off2, z, u, hA2, _, hz, f0, _⟩ := lab_at (hl.below hbz) (show j < n by omega)
            cases hA2
            have g0 := (hbz.cell (p := ⟨b, off + i * 2, none⟩) hgb).trans e0
            obtain ⟨q, hq⟩ : ∃ q, (x.toList == z.toList) = q := ⟨_, rfl⟩
            have HF : Hid ((a0 || q) = (allT L i || rowT L i (j + 1))) := Lib.hid (by
              rw [rowT_succ, ← Bool.or_assoc, ← HA.out, ← hq]
              congr 1
              rw [EX.out, List.getD_eq_getElem?_getD, hz, ByteArray.toList_eq, ByteArray.toList_eq]; rfl)
            clear HA
            cases a0
            all_goals
              simp only [Bool.false_or, Bool.true_or] at HF
              go_wp2_with fail
              go_quiet (fail)
              go_wp2_with fail
              exact ⟨⟨bl_drewN hbz _, trivial, _, j + 1, by omega, rfl, rfl, HF⟩, by (simp only [intOf]; omega)⟩
          · have hdj : decide ((j : Int) < i) = false := decide_eq_false (by omega)
            obtain rfl : j = i := by omega
            have HF : Hid (a0 = allT L (j + 1)) := Lib.hid (by rw [allT_succ]; exact HA.out)
            clear HA
            go_wp2_with fail
            exact ⟨⟨hbz, hex, a0, j + 1, by omega, rfl, rfl, HF⟩, by (simp only [intOf]; omega)⟩
      · have hdi : decide ((i : Int) < n) = false := decide_eq_false (by omega)
        obtain rfl : n = i := by omega
        have hfin := HA.out.trans HE.out
        subst hfin
        clear HA HE
        go_wp2_with fail
        go_ret
        exact ⟨rfl, hbw⟩
  · obtain ⟨S, hSo, hSS⟩ := sortL_sorted hd
    have kS1 := fun W h => (kS W h).mono fun e w' ⟨h1, h2⟩ => And.intro (sortE_S hSo hll e w' h1) h2
    have HE : Hid (allT L n = false) := Lib.hid (by have := HT.out; rw [hll, hd] at this; exact this)
    have HS := Lib.hid hSS
    clear kS HT hSo hSS
    go_enter Try.func4, Try.ntmps4
    go_wp2_with (first
      | (go_at_call 7; refine (known7_any _).mono ?_; rintro e w1 ⟨rfl, hb1⟩; have hl1 := hl.step hb1)
      | (go_at_call 8; refine (short_any A n cap L _ hl1 (by omega)).mono ?_; rintro e w2 ⟨rfl, rfl⟩; rw [hsa])
      | (go_at_call 9; refine (kS1 _ hl1).mono ?_; rintro e w2 ⟨⟨As, cs, rfl, hrs⟩, hb2⟩))
    have hb0 := bl_any hb1 hb2
    clear kS1 hl1
    go_loopw [7, 8] (fun a i wr => Below w.heap.size w wr ∧ IsRows labCell 2 wr w2.heap.size As n S ∧ w2.heap.size ≤ wr.heap.size ∧ ∃ (a0 : Bool) (i0 : Nat), i0 ≤ n ∧ a = .bool a0 ∧ i = .int .i64 i0 ∧ Hid (a0 = allT L i0)) (fun _ i _ => n - (intOf i).toNat)
    case atStart => exact ⟨hb0, hrs, Nat.le_refl _, false, 0, by omega, rfl, rfl, Lib.hid rfl⟩
    case round =>
      obtain ⟨wo, rfl⟩ : ∃ wo, wo = wr := ⟨_, rfl⟩
      obtain ⟨hbw, hx1, hx2, a0, i, hi, rfl, rfl, HA⟩ := hrel
      have hex := And.intro hx1 hx2
      clear hx1 hx2
      by_cases hlt : i < n
      · have hdi : decide ((i : Int) < n) = true := decide_eq_true (by omega)
        have hi0 : (0 : Int) ≤ i := by omega
        have hi1 : (i : Int) < n := by omega
        obtain ⟨b, off, x, y, rfl, hgb, hx, e0, _⟩ := lab_at hl hlt
        have ex : L.getD i default = (x, y) := by rw [List.getD_eq_getElem?_getD, hx]; rfl
        have EX := Lib.hid ex
        clear ex
        go_wp2_with fail
        go_loopw [7, 9] (fun a j wr => Below w.heap.size w wr ∧ IsRows labCell 2 wr w2.heap.size As n S ∧ w2.heap.size ≤ wr.heap.size ∧ ∃ (a0 : Bool) (j0 : Nat), j0 ≤ i ∧ a = .bool a0 ∧ j = .int .i64 j0 ∧ Hid (a0 = (allT L i || rowT L i j0))) (fun _ j _ => i - (intOf j).toNat)
        case atStart => exact ⟨hbw, hex.1, hex.2, a0, 0, by omega, rfl, rfl, Lib.hid (by rw [HA.out]; simp [rowT])⟩
        case round =>
          clear HA hex
          obtain ⟨wy, rfl⟩ : ∃ wy, wy = wr := ⟨_, rfl⟩
          obtain ⟨hbz, hx1, hx2, a0, j, hj, rfl, rfl, HA⟩ := hrel
          have hex := And.intro hx1 hx2
          clear hx1 hx2
          by_cases hltj : j < i
          · have hdj : decide ((j : Int) < i) = true := decide_eq_true (by omega)
            have hj0 : (0 : Int) ≤ j := by omega
            have hj1 : (j : Int) < n := by omega
            obtain ⟨b2, off2, z, u, hA2, _, hz, f0, _⟩ := lab_at (hl.below hbz) (show j < n by omega)
            cases hA2
            have g0 := (hbz.cell (p := ⟨b, off + i * 2, none⟩) hgb).trans e0
            obtain ⟨q, hq⟩ : ∃ q, (x.toList == z.toList) = q := ⟨_, rfl⟩
            have HF : Hid ((a0 || q) = (allT L i || rowT L i (j + 1))) := Lib.hid (by
              rw [rowT_succ, ← Bool.or_assoc, ← HA.out, ← hq]
              congr 1
              rw [EX.out, List.getD_eq_getElem?_getD, hz, ByteArray.toList_eq, ByteArray.toList_eq]; rfl)
            clear HA
            cases a0
            all_goals
              simp only [Bool.false_or, Bool.true_or] at HF
              go_wp2_with fail
              go_quiet (fail)
              go_wp2_with fail
              exact ⟨⟨bl_drewN hbz _, hex.1.keep (fun _ _ _ => rfl), hex.2, _, j + 1, by omega, rfl, rfl, HF⟩, by (simp only [intOf]; omega)⟩
          · have hdj : decide ((j : Int) < i) = false := decide_eq_false (by omega)
            obtain rfl : j = i := by omega
            have HF : Hid (a0 = allT L (j + 1)) := Lib.hid (by rw [allT_succ]; exact HA.out)
            clear HA
            go_wp2_with fail
            exact ⟨⟨hbz, hex.1, hex.2, a0, j + 1, by omega, rfl, rfl, HF⟩, by (simp only [intOf]; omega)⟩
      · have hdi : decide ((i : Int) < n) = false := decide_eq_false (by omega)
        obtain rfl : n = i := by omega
        have hfin := HA.out.trans HE.out
        subst hfin
        clear HA HE
        obtain ⟨hrw, hsz⟩ := hex
        have hlw := (hl.below hbw).more hbw.size
        have hrw := hrw.more hsz
        by_cases hn0 : n = 0
        · subst hn0
          go_wp2_with fail
          go_ret
          exact ⟨rfl, hbw⟩
        have hz0 : ((n : Int) == 0) = false := by (rw [beq_eq_false_iff_ne]; omega)
        have hnz : ¬ (n : Int) = 0 := by omega
        obtain ⟨tn, rfl⟩ : ∃ tn : Nat, turn = (tn : Int) := ⟨turn.toNat, by omega⟩
        obtain ⟨m, hmk, hmod⟩ : ∃ m : Nat, m < n ∧ (tn : Int) % (n : Int) = (m : Int) := ⟨tn % n, Nat.mod_lt _ (by omega), by omega⟩
        obtain ⟨b, off, x, y, rfl, hgb, hx, e0, e1⟩ := lab_at hlw hmk
        have hq3 : (0 : Int) ≤ tn := by omega
        have hn20' : (n : Int) ≤ 20 := by omega
        have hm0 : (0 : Int) ≤ m := by omega
        have hm1 : (m : Int) ≤ n := by omega
        have hm2 : (m : Int) ≤ cap := by omega
        have hm3 : (n : Int) ≤ cap := by omega
        have hm4 : (m : Int) < n := by omega
        have hck : ¬ cap = m := by omega
        obtain ⟨i0, hi0, iz0, hz1, hz2⟩ := info_parts Try.infoLabel
        have hu : Try.prog.underlying 22 = some (.slice 38) := by kernel_rfl
        have hcut : IsRows labCell 2 wo wo.heap.size (some ⟨b, off + m * 2, none⟩) (n - m) (L.drop m) := rows_cut m hlw
        have hto : IsRows labCell 2 wo wo.heap.size (some ⟨b, off, none⟩) m (L.take m) := rows_take (by omega) hlw
        have kS2 : ∀ (A : Option Addr) (c : Nat) (W : World), IsRows labCell 2 W W.heap.size A (n - m + m) (L.drop m ++ L.take m) → Calls Try.prog 9 #[.slice A (n - m + m) c] W fun e w' => (∃ A cap, e = .returned (.tuple #[.slice A n cap, .bool true]) ∧ IsRows labCell 2 w' w'.heap.size A n S) ∧ Below W.heap.size W w' := fun A c W h => (sort_any A (n - m + m) c _ W h (by omega)).mono fun e w' ⟨h1, h2⟩ => ⟨sortE_S (sortL_turn HS.out m) (by rw [List.length_append, List.length_drop, List.length_take]; omega) e w' h1, h2⟩
        have kS3 : ∀ (A : Option Addr) (c : Nat) (W : World), IsRows labCell 2 W W.heap.size A (n + 1) (L ++ [(x, ⟨#[109, 111, 114, 101]⟩)]) → Calls Try.prog 9 #[.slice A (n + 1) c] W fun e w' => (∃ A cap, e = .returned (.tuple #[.slice A 0 cap, .bool false])) ∧ Below W.heap.size W w' := fun A c W h => (sort_any A (n + 1) c _ W h (by omega)).mono fun e w' ⟨h1, h2⟩ => ⟨sortE_N (sortL_more hx) e w' h1, h2⟩
        go_wp2_with fail
        rw [hmod]
        clear hmod
        have hW0 : Below wo.heap.size wo wo := Below.refl _ _
        go_region_held3 (fun w' => Below wo.heap.size wo w') ((repeat (first | assumption | refine Below.drew ?_ | refine bl_drewN ?_ _ | refine bl_alloc ?_ _))) (first
          | (refine step_append_any _ (by rfl) (.const (.slice none 0 0)) (.tmp 80) _ (by rfl) wo.heap.size 38 i0 _ 2 32 hu hi0 iz0 hz1 hz2 rfl (by omega) _ 0 [] (by rfl) (World.ownsRow_nil _ _ _ _) wo.heap.size _ (n - m) _ _ (by rfl) ((labs_reads hcut).below ‹Below wo.heap.size wo _›) (labs_one _) (by first | (simp [maxLen]; done) | (simp [maxLen]; omega)) (by omega) (‹Below wo.heap.size wo _›).size ?_; intro v6 w6 hown6 hg6 hat6; have hB6 : Below wo.heap.size wo w6 := Below.grown ‹Below wo.heap.size wo _› hg6 (‹Below wo.heap.size wo _›).size (by simp [Value.ownBlock]))
          | (refine step_append_any _ (by rfl) (.tmp 81) (.tmp 84) _ (by rfl) wo.heap.size 38 i0 _ 2 32 hu hi0 iz0 hz1 hz2 rfl (by omega) v6 (0 + (n - m)) _ (by rfl) hown6 wo.heap.size _ m _ _ (by rfl) ((labs_reads hto).below hB6) (labs_one _) (by first | (simp [maxLen]; done) | (simp [maxLen]; omega)) (by omega) hB6.size ?_; intro v7 w7 hown7 hg7 hat7; have hB7 : Below wo.heap.size wo w7 := Below.grown hB6 hg7 hB6.size (fun j e => (hown6.lt _ e).1); rw [Nat.zero_add, List.nil_append, ← List.flatMap_append] at hown7; obtain ⟨A7, cap7, rfl, hr7⟩ := own_rws (f := labCell) (fun _ => rfl) hown7 (by first | rfl | (simp [hll]; done) | (simp [hll]; omega)))
          | (go_at_call 9; refine (kS2 _ _ _ hr7).mono ?_; rintro e w8 ⟨⟨Ab, cb, rfl, hrb⟩, hb8⟩; have hB8 := bl_any hB7 hb8))
        have hrs8 := hrw.below hB8
        have hlw8 := hlw.below hB8
        clear hr7 hown7 hat7 hg7 hg6 hat6 hown6 hb8 hW0
        go_wp2_with fail
        have f0 := (hB8.cell (p := ⟨b, off + m * 2, none⟩) hgb).trans e0
        have f1 := (hB8.cell (p := ⟨b, off + m * 2 + 1, none⟩) hgb).trans e1
        clear e0 e1
        have hlw9 := hlw8.more hB8.size
        have hW0 : Below w8.heap.size w8 w8 := Below.refl _ _
        go_region_held3 (fun w' => (w'.cell? ⟨b, off + m * 2, none⟩ = some (.string x) ∧ w'.cell? ⟨b, off + m * 2 + 1, none⟩ = some (.string y)) ∧ Below w8.heap.size w8 w') ((refine mkS f0 f1 ?_; repeat (first | assumption | exact And.right (by assumption) | refine Below.drew ?_ | refine bl_drewN ?_ _ | refine bl_alloc ?_ _))) (first
          | (obtain ⟨_, hcur⟩ := ‹(_ ∧ _) ∧ Below w8.heap.size w8 _›; refine step_append_any _ (by rfl) (.const (.slice none 0 0)) (.tmp 90) _ (by rfl) w8.heap.size 38 i0 _ 2 32 hu hi0 iz0 hz1 hz2 rfl (by omega) _ 0 [] (by rfl) (World.ownsRow_nil _ _ _ _) w8.heap.size _ n _ _ (by rfl) ((labs_reads hlw9).below hcur) (labs_one _) (by first | (simp [maxLen]; done) | (simp [maxLen]; omega)) (by omega) hcur.size ?_; intro v2 w2' hown2 hg2 hat2; have hB2 : Below w8.heap.size w8 w2' := Below.grown hcur hg2 hcur.size (by simp [Value.ownBlock]); have hz2' := hB2.size; (try have hN2 : Blk w2' w8.heap.size 38 #[.string x, .string ⟨#[109, 111, 114, 101]⟩] := Blk.grown (by exact Blk.new w8 38 #[.string x, .string ⟨#[109, 111, 114, 101]⟩]) hg2 (by simp [Value.ownBlock])))
          | (obtain ⟨_, hcur⟩ := ‹(_ ∧ _) ∧ Below w8.heap.size w8 _›; refine step_append_any _ (by rfl) (.tmp 91) (.tmp 98) _ (by rfl) w8.heap.size 38 i0 _ 2 32 hu hi0 iz0 hz1 hz2 rfl (by omega) v2 (0 + n) _ (by rfl) (by first | exact hown2 | exact hown2.alloc _) _ _ 1 _ [.string x, .string ⟨#[109, 111, 114, 101]⟩] (by rfl) (by first | exact blk_reads hN2 | exact blk_reads (Blk.new w2' _ _)) (by simp [Value.oneCell']) (by first | (simp [maxLen]; done) | (simp [maxLen]; omega)) (by omega) hcur.size ?_; intro v3 w3 hown3 hg3 hat3; have hB3 : Below w8.heap.size w8 w3 := Below.grown hcur hg3 hcur.size (fun j e => (hown2.lt _ e).1); rw [Nat.zero_add, List.nil_append] at hown3; obtain ⟨A3, cap3, rfl, hr3⟩ := own_rws (f := labCell) (l := L ++ [(x, ⟨#[109, 111, 114, 101]⟩)]) (fun _ => rfl) (by simpa [labCell] using hown3) (by simp [hll]))
          | (go_at_call 9; refine (kS3 _ _ _ hr3).mono ?_; rintro e w9 ⟨⟨Ac, cc, rfl⟩, hb9⟩; have hB9 := bl_any hB3 hb9))
        all_goals
          have hrs9 := (hrs8.more hB8.size).below hB9
          have hrb9 := hrb.below hB9
          have hlw10 := hlw9.below hB9
          have hbT := bl_any (bl_any hbw hB8) hB9
          have hz9 := hB9.size
          clear hrs8 hrb hlw9 hlw8 hB8 hB9 f0 f1 hr3 hown3 hown2 hat2 hat3 hg2 hg3 hb9 hlw hrw hcut hto kS2 kS3
          go_wp2_with fail
          obtain ⟨b4, off4, _, _, rfl, _⟩ := lab_at hrs9 (show 0 < n by omega)
          obtain ⟨b5, off5, _, _, rfl, _⟩ := lab_at hrb9 (show 0 < n by omega)
          go_loopw [15] (fun i wr => Below w9.heap.size w9 wr ∧ ∃ j : Nat, j ≤ n ∧ i = .int .i64 j) (fun i _ => n - (intOf i).toNat)
          case atStart => exact ⟨Below.refl _ _, 0, by omega, rfl⟩
          case round =>
            obtain ⟨hbr, j, hj, rfl⟩ := hrel
            have hlr := ((hlw10.more hz9).below hbr).more hbr.size
            by_cases hltj : j < n
            · have hdj : decide ((j : Int) < n) = true := decide_eq_true (by omega)
              have hj0 : (0 : Int) ≤ j := by omega
              have hj1 : (j : Int) < n := by omega
              obtain ⟨c4, d4, px, py, hA4, hg4, hx4, p0, p1⟩ := lab_at ((hrs9.more hz9).below hbr) hltj
              cases hA4
              obtain ⟨c5, d5, qx, qy, hA5, _, hx5, q0, q1⟩ := lab_at ((hrb9.more hz9).below hbr) hltj
              cases hA5
              rw [hx4] at hx5
              obtain ⟨rfl, rfl⟩ : px = qx ∧ py = qy := by injection hx5 with e; injection e with e1 e2; exact ⟨e1, e2⟩
              have kne : ∀ W : World, (binOp .neq 38 (.agg #[.string px, .string py]) (.agg #[.string px, .string py])).run Try.prog W = .ok (.bool false) W := fun W => by rw [neqLab]; simp
              have hgs := get_sorted HS.out hx4
              have kG : ∀ W : World, IsRows labCell 2 W W.heap.size (some ⟨b, off, none⟩) n L → Calls Try.prog 11 #[.slice (some ⟨b, off, none⟩) n cap, .string px] W fun e w' => e = .returned (.tuple #[.string py, .bool true]) ∧ Below W.heap.size W w' := fun W h => (get_any _ n cap L px W h (by omega)).mono fun e w' ⟨h1, h2⟩ => ⟨by rw [h1, hgs]; rfl, h2⟩
              have hp1 : ∀ W w', Below W.heap.size W w' → W.heap.size = wr.heap.size → W.cell? ⟨b4, off4 + j * 2 + 1, none⟩ = some (.string py) → w'.cell? ⟨b4, off4 + j * 2 + 1, none⟩ = some (.string py) := fun W w' h h2 h3 => (h.cell (p := ⟨b4, off4 + j * 2 + 1, none⟩) (by rw [h2]; exact Nat.lt_of_lt_of_le hg4 hbr.size)).trans h3
              clear hx5 hgs
              by_cases h0 : j = 0
              · have hg0 : decide (0 < j) = false := decide_eq_false (by omega)
                have H0 := Lib.hid h0
                clear h0 hx4
                go_wp2_with fail
                go_quiet (fail)
                go_wp2_with (go_at_call 11; refine (kG (wr.drewN _) (hlr.keep (fun _ _ _ => rfl))).mono ?_; rintro e w10 ⟨rfl, hb10⟩; have p1' := hp1 _ _ hb10 rfl p1)
                exact ⟨⟨bl_any (bl_drewN hbr _) hb10, j + 1, by omega, rfl⟩, by (simp only [intOf]; omega)⟩
              · have hg0 : decide (0 < j) = true := decide_eq_true (by omega)
                obtain ⟨c6, d6, rx, ry, hA6, _, hx6, r0, _⟩ := lab_at ((hrs9.more hz9).below hbr) (show j - 1 < n by omega)
                cases hA6
                have hkm0 : (0 : Int) ≤ (j : Int) - 1 := by omega
                have hkm1 : (j : Int) - 1 < n := by omega
                have hkm2 : (1 : Int) ≤ j := by omega
                have hw1 : IntKind.i64.wrap ((j : Int) - 1) = (j : Int) - 1 := IntWalk.i64_in _ (by omega)
                have hw2 : ((j : Int) - 1).toNat = j - 1 := by omega
                have hql : Op.bytesLess rx.toList px.toList = true := by
                  obtain ⟨k1, k2⟩ := List.getElem?_eq_some_iff.1 hx6
                  obtain ⟨k3, k4⟩ := List.getElem?_eq_some_iff.1 hx4
                  have := List.pairwise_iff_getElem.1 HS.out.2 (j - 1) j k1 k3 (by omega)
                  rw [k2, k4] at this
                  rw [bytesLess_eq, ByteArray.toList_eq, ByteArray.toList_eq]
                  exact decide_eq_true this
                clear h0 hx4 hx6
                go_wp2_with fail
                go_quiet (fail)
                go_wp2_with (go_at_call 11; refine (kG (wr.drewN _) (hlr.keep (fun _ _ _ => rfl))).mono ?_; rintro e w10 ⟨rfl, hb10⟩; have p1' := hp1 _ _ hb10 rfl p1)
                exact ⟨⟨bl_any (bl_drewN hbr _) hb10, j + 1, by omega, rfl⟩, by (simp only [intOf]; omega)⟩
            · have hdj : decide ((j : Int) < n) = false := decide_eq_false (by omega)
              go_wp2_with fail
              go_ret
              exact ⟨rfl, bl_any hbT hbr⟩
end Go.Proofs.Ytlolbpefeagclaa
