/- The walk of the reference's SortLabels. -/
import Derived.Test.YtlolbpefeagclaaLabD
import Derived.Deep.RegionHeld3
import Derived.Deep.DrawnRows
import Derived.WalkLawsBesides
namespace Go.Proofs.Ytlolbpefeagclaa
open Go.RowKit
attribute [local go_sem ↓] Go.wp_at_zero Go.wp_at_succ
theorem own_base {w : World} {base base' : Nat} {e : TypeId} {size : Nat} {v : Value} {n : Nat} {xs : List Value} (h : w.ownsRow base' e size v n xs) (hb : base ≤ base') : w.ownsRow base e size v n xs := by
  obtain ⟨hl, h | ⟨g, cap, cur, hv, hg, r⟩⟩ := h
  · exact ⟨hl, .inl h⟩
  · exact ⟨hl, .inr ⟨g, cap, cur, hv, Nat.le_trans hb hg, r⟩⟩
theorem rows_take {α : Type} {f : α → List Value} {size : Nat} {w : World} {B : Nat} {A : Option Addr} {n : Nat} {l : List α} {k : Nat} (hk : k ≤ n) (h : IsRows f size w B A n l) : IsRows f size w B A k (l.take k) :=
  ⟨by rw [List.length_take, h.1]; omega, fun hn => by
    obtain ⟨b', off', e, hb, hc⟩ := h.2 (by omega)
    refine ⟨_, _, e, hb, fun i x j u hx hu => hc i x j u ?_ hu⟩
    rw [List.getElem?_take] at hx
    split at hx
    · exact hx
    · cases hx⟩
theorem mkS {wo w' : World} {b o : Nat} {u v : Value} (e0 : wo.cell? ⟨b, o, none⟩ = some u) (e1 : wo.cell? ⟨b, o + 1, none⟩ = some v) (hb : Below wo.heap.size wo w') : (w'.cell? ⟨b, o, none⟩ = some u ∧ w'.cell? ⟨b, o + 1, none⟩ = some v) ∧ Below wo.heap.size wo w' :=
  ⟨⟨(hb.cell (p := ⟨b, o, none⟩) (lt_of_cell e0)).trans e0, (hb.cell (p := ⟨b, o + 1, none⟩) (lt_of_cell e1)).trans e1⟩, hb⟩
/-! ### putting one more -/
theorem put_sorted {M S : List Lab} {x : Lab} {k : Nat} (h : SortedOf M S) (hk : k ≤ S.length) (hhi : ∀ j, k ≤ j → j < S.length → nmL x < nmL (S.getD j default)) (hlo : 0 < k → nmL (S.getD (k - 1) default) < nmL x) : SortedOf (M ++ [x]) (S.take k ++ [x] ++ S.drop k) := by
  have e : ∀ j (hj : j < S.length), S.getD j default = S[j] := fun j hj => by rw [List.getD_eq_getElem?_getD, List.getElem?_eq_getElem hj]; rfl
  constructor
  · have h1 : (S.take k ++ [x] ++ S.drop k).Perm ([x] ++ (S.take k ++ S.drop k)) := by
      rw [List.append_assoc]
      refine (List.perm_append_comm_assoc _ _ _)
    rw [List.take_append_drop] at h1
    exact h1.trans ((List.Perm.append_left [x] h.1).trans List.perm_append_comm)
  · have h2 := h.2
    rw [← List.take_append_drop k S, List.pairwise_append] at h2
    rw [List.append_assoc, List.pairwise_append]
    refine ⟨h2.1, ?_, ?_⟩
    · rw [List.singleton_append, List.pairwise_cons]
      refine ⟨fun y hy => ?_, h2.2.1⟩
      obtain ⟨j, hj, rfl⟩ := List.getElem_of_mem hy
      rw [List.getElem_drop]
      have hj' : k + j < S.length := by simp at hj; omega
      have := hhi (k + j) (by omega) hj'
      rw [e _ hj'] at this; exact this
    · intro y hy z hz
      rw [List.singleton_append, List.mem_cons] at hz
      rcases hz with rfl | hz
      · have hk0 : 0 < k := by
          rcases Nat.eq_zero_or_pos k with h0 | h0
          · subst h0; simp at hy
          · exact h0
        have h3 := hlo hk0
        rw [e _ (by omega)] at h3
        obtain ⟨j, hj, rfl⟩ := List.getElem_of_mem hy
        simp only [List.length_take] at hj
        rw [List.getElem_take]
        by_cases ej : j = k - 1
        · subst ej; exact h3
        · exact List.lt_trans (List.pairwise_iff_getElem.1 h.2 j (k - 1) (by omega) (by omega) (by omega)) h3
      · exact h2.2.2 y hy z hz
theorem dup_take {L S : List Lab} {i j : Nat} {x : Lab} (h : SortedOf (L.take i) S) (hx : L[i]? = some x) (hj : j < S.length) (e : nmL (S.getD j default) = nmL x) : sortL L = none := by
  refine sortL_none ?_
  have hm : S.getD j default ∈ L.take i := by
    rw [List.getD_eq_getElem?_getD, List.getElem?_eq_getElem hj]
    exact h.1.mem_iff.1 (List.getElem_mem hj)
  obtain ⟨q, hq, e2⟩ := List.getElem_of_mem hm
  simp only [List.length_take] at hq
  refine distinct_two (i := q) (j := i) (by omega) (List.getElem?_eq_some_iff.1 hx).1 ?_
  rw [List.getD_eq_getElem?_getD, List.getD_eq_getElem?_getD, hx, List.getElem?_eq_getElem (by omega)]
  rw [List.getElem_take] at e2
  show nmL L[q] = nmL x
  rw [e2, e]
theorem blk_reads {w : World} {g : Nat} {t : TypeId} {u v : Value} (h : Blk w g t #[u, v]) : Reads w w.heap.size 2 (some ⟨g, 0, none⟩) 1 [u, v] := by
  refine ⟨rfl, fun _ => ⟨_, rfl, h.lt, fun j z hz => ?_⟩⟩
  have he : (⟨g, 0, none⟩ : Addr).add j = ⟨g, j, none⟩ := by unfold Addr.add; split <;> simp_all
  rw [he, h.cell j, ← hz]
  simp
theorem own_cases {w : World} {base : Nat} {e : TypeId} {size : Nat} {v : Value} {n : Nat} {xs : List Value} (h : w.ownsRow base e size v n xs) : (v = .slice none 0 0 ∧ xs = []) ∨ ∃ g cap, v = .slice (some ⟨g, 0, none⟩) n cap ∧ n ≤ cap ∧ cap ≤ maxLen := by
  obtain ⟨_, ⟨h1, h2⟩ | ⟨g, cap, cur, hv, hg, hh, hnc, hcm, _⟩⟩ := h
  · exact .inl ⟨h1, by subst h2; exact List.length_eq_zero_iff.1 (by omega)⟩
  · exact .inr ⟨g, cap, hv, hnc, hcm⟩
set_option maxRecDepth 100000 in
set_option maxHeartbeats 6400000 in
theorem refSort_any (A : Option Addr) (n cap : Nat) (L : List Lab) (w : World) (hl : IsRows labCell 2 w w.heap.size A n L) (hn : n ≤ 1048576) :
    Calls Try.prog 10 #[.slice A n cap] w fun e w' => SortE L e w' ∧ Below w.heap.size w w' := by
  have hll := hl.1
  obtain ⟨i0, hi0, hz0, hz1, hz2⟩ := info_parts Try.infoLabel
  have hu : Try.prog.underlying 22 = some (.slice 38) := by kernel_rfl
  go_enter Try.func10, Try.ntmps10
  go_wp2_with fail
  go_loopw [4, 5] (fun o i wr => Below w.heap.size w wr ∧ ∃ (k : Nat) (S : List Lab) (v : Value), k ≤ n ∧ i = .int .i64 k ∧ o = v ∧ S.length = k ∧ wr.ownsRow w.heap.size 38 2 v k (S.flatMap labCell) ∧ Hid (SortedOf (L.take k) S)) (fun _ i _ => n - (intOf i).toNat)
  case atStart => exact ⟨Below.refl _ _, 0, [], _, by omega, rfl, rfl, rfl, World.ownsRow_nil _ _ _ _, Lib.hid ⟨by simp, List.Pairwise.nil⟩⟩
  case round =>
    obtain ⟨wo, rfl⟩ : ∃ wo, wo = wr := ⟨_, rfl⟩
    obtain ⟨hbw, k, S, v, hk, rfl, rfl, hS, hown, HS⟩ := hrel
    have hwo := hbw.size
    by_cases hlt : k < n
    · have hdk : decide ((k : Int) < n) = true := decide_eq_true (by omega)
      have hk0 : (0 : Int) ≤ k := by omega
      have hk1 : (k : Int) < n := by omega
      obtain ⟨b, off, x, y, rfl, hgb, hx, e0, e1⟩ := lab_at (hl.below hbw) hlt
      have hgw := Nat.lt_of_lt_of_le hgb hbw.size
      have htk : L.take (k + 1) = L.take k ++ [(x, y)] := by rw [List.take_add_one, hx]; rfl
      have HK := Lib.hid htk
      clear htk
      rcases own_cases hown with ⟨rfl, hnil⟩ | ⟨g, cap', rfl, hnc, hcm⟩
      · have hSn : S = [] := by
          cases S with
          | nil => rfl
          | cons a t => simp [labCell] at hnil
        have hkz : k = 0 := by rw [← hS, hSn]; rfl
        have HQ : Hid (SortedOf (L.take (k + 1)) [(x, y)]) := Lib.hid (by
          rw [HK.out]
          have := put_sorted (x := (x, y)) (k := 0) HS.out (by omega) (fun j h1 h2 => by omega) (fun h => absurd h (by omega))
          rw [hSn] at this; exact this)
        have HT : Reads wo wo.heap.size 2 none 0 (([] : List Lab).flatMap labCell) := Reads.none_
        have HD : Reads wo wo.heap.size 2 none 0 (([] : List Lab).flatMap labCell) := Reads.none_
        have hkz2 : k ≤ 0 := by omega
        have HZ := Lib.hid hkz
        clear hkz hSn hnil
        go_wp2_with fail
        refine wp_loop_rounds 1 ?_
        rw [rounds_succ]
        go_wp2_with fail
        go_quiet (fail)
        go_wp2_with fail
        go_quiet (fail)
        go_wp2_with fail
        have hW0 : Below wo.heap.size wo wo := Below.refl _ _
        go_region_held3 (fun w' => (w'.cell? ⟨b, off + k * 2, none⟩ = some (.string x) ∧ w'.cell? ⟨b, off + k * 2 + 1, none⟩ = some (.string y)) ∧ Below wo.heap.size wo w') ((refine mkS e0 e1 ?_; repeat (first | assumption | exact And.right (by assumption) | refine Below.drew ?_ | refine bl_drewN ?_ _ | refine bl_alloc ?_ _))) (first
          | (obtain ⟨_, hcur⟩ := ‹(_ ∧ _) ∧ Below wo.heap.size wo _›; refine step_append_any _ (by rfl) (.const (.slice none 0 0)) (.tmp 51) _ (by rfl) wo.heap.size 38 i0 _ 2 32 hu hi0 hz0 hz1 hz2 rfl (by omega) _ 0 [] (by rfl) (World.ownsRow_nil _ _ _ _) wo.heap.size _ 0 _ _ (by rfl) (HT.below hcur) (labs_one _) (by first | (simp [maxLen]; done) | (simp [maxLen]; omega)) (by omega) hcur.size ?_; intro v6 w6 hown6 hg6 hat6; have hB6 : Below wo.heap.size wo w6 := Below.grown hcur hg6 hcur.size (by simp [Value.ownBlock]); have hz6 := hB6.size; (try have hN6 : Blk w6 wo.heap.size 38 #[.string x, .string y] := Blk.grown (by exact Blk.new wo 38 #[.string x, .string y]) hg6 (by simp [Value.ownBlock])))
          | (obtain ⟨_, hcur⟩ := ‹(_ ∧ _) ∧ Below wo.heap.size wo _›; refine step_append_any _ (by rfl) (.tmp 52) (.tmp 57) _ (by rfl) wo.heap.size 38 i0 _ 2 32 hu hi0 hz0 hz1 hz2 rfl (by omega) v6 (0 + 0) _ (by rfl) (by first | exact hown6 | exact hown6.alloc _) _ _ 1 _ [.string x, .string y] (by rfl) (by first | exact blk_reads hN6 | exact blk_reads (Blk.new w6 _ _)) (by simp [Value.oneCell']) (by first | (simp [maxLen]; done) | (simp [maxLen]; omega)) (by omega) hcur.size ?_; intro v7 w7 hown7 hg7 hat7; have hB7 : Below wo.heap.size wo w7 := Below.grown hcur hg7 hcur.size (fun j e => (hown6.lt _ e).1); have hz7 := hB7.size)
          | (refine step_append_any _ (by rfl) (.tmp 58) (.tmp 61) _ (by rfl) wo.heap.size 38 i0 _ 2 32 hu hi0 hz0 hz1 hz2 rfl (by omega) v7 (0 + 0 + 1) _ (by rfl) hown7 wo.heap.size _ (0) _ _ (by rfl) (HD.below hB7) (labs_one _) (by first | (simp [maxLen]; done) | (simp [maxLen]; omega)) (by omega) hB7.size ?_; intro v8 w8 hown8 hg8 hat8; have hB8 : Below wo.heap.size wo w8 := hB7.grown hg8 hB7.size (fun j e => (hown7.lt _ e).1)))
        all_goals
          go_wp2_with fail
          exact ⟨⟨bl_any hbw hB8, k + 1, [(x, y)], v8, by omega, rfl, rfl, by (rw [HZ.out]; rfl), by (rw [HZ.out]; simpa [labCell] using own_base hown8 hwo), HQ⟩, by (simp only [intOf]; omega)⟩
      · have hrS : IsRows labCell 2 wo wo.heap.size (some ⟨g, 0, none⟩) k S := by
          obtain ⟨A', c', hv, hr⟩ := own_rws (f := labCell) (fun _ => rfl) hown hS
          cases hv; exact hr
        go_wp2_with fail
        go_loopw [6] (fun i wr => ∃ (m q : Nat), wr = wo.drewN q ∧ m ≤ k ∧ i = .int .i64 m ∧ Hid (∀ j, m ≤ j → j < S.length → x.data.toList < nmL (S.getD j default))) (fun i _ => (intOf i).toNat)
        case atStart => exact ⟨k, 0, rfl, by omega, rfl, Lib.hid (fun j h1 h2 => by omega)⟩
        case round =>
          obtain ⟨m, q, rfl, hm, rfl, HG⟩ := hrel
          have hm0 : (0 : Int) ≤ m := by omega
          have hm1 : (m : Int) ≤ k := by omega
          have hm2 : (m : Int) ≤ cap' := by omega
          have hm3 : (k : Int) ≤ cap' := by omega
          have HT := labs_reads (rows_take hm hrS)
          have hto : ∀ (hne : ¬ cap' = m), Reads wo wo.heap.size 2 (some ⟨g, m * 2, none⟩) (k - m) ((S.drop m).flatMap labCell) := fun _ => labs_reads (by have := rows_cut m hrS; rwa [Nat.zero_add] at this)
          by_cases hmz : m = 0
          · have hdm : decide (0 < m) = false := decide_eq_false (by omega)
            have HP := Lib.hid (put_sorted (x := (x, y)) (k := m) HS.out (by omega) HG.out (fun h => absurd h (by omega)))
            clear HG hmz
            by_cases hcp : cap' = m
            · have hkm : k = m := by omega
              have HD : Reads wo wo.heap.size 2 (some ⟨g, 0, none⟩) (k - m) ((S.drop m).flatMap labCell) := by
                rw [show k - m = 0 by omega, List.drop_of_length_le (by omega)]
                exact ⟨rfl, fun h => absurd h (by omega)⟩
              have HKM := Lib.hid hkm
              clear hkm
              go_wp2_with fail
              go_quiet (fail)
              go_wp2_with fail
              go_quiet (fail)
              go_wp2_with fail
              clear hdm
              have hW0 : Below wo.heap.size wo wo := Below.refl _ _
              go_region_held3 (fun w' => (w'.cell? ⟨b, off + k * 2, none⟩ = some (.string x) ∧ w'.cell? ⟨b, off + k * 2 + 1, none⟩ = some (.string y)) ∧ Below wo.heap.size wo w') ((refine mkS e0 e1 ?_; repeat (first | assumption | exact And.right (by assumption) | refine Below.drew ?_ | refine bl_drewN ?_ _ | refine bl_alloc ?_ _))) (first
                | (obtain ⟨_, hcur⟩ := ‹(_ ∧ _) ∧ Below wo.heap.size wo _›; refine step_append_any _ (by rfl) (.const (.slice none 0 0)) (.tmp 51) _ (by rfl) wo.heap.size 38 i0 _ 2 32 hu hi0 hz0 hz1 hz2 rfl (by omega) _ 0 [] (by rfl) (World.ownsRow_nil _ _ _ _) wo.heap.size _ m _ _ (by rfl) (HT.below hcur) (labs_one _) (by first | (simp [maxLen]; done) | (simp [maxLen]; omega)) (by omega) hcur.size ?_; intro v6 w6 hown6 hg6 hat6; have hB6 : Below wo.heap.size wo w6 := Below.grown hcur hg6 hcur.size (by simp [Value.ownBlock]); have hz6 := hB6.size; (try have hN6 : Blk w6 wo.heap.size 38 #[.string x, .string y] := Blk.grown (by exact Blk.new wo 38 #[.string x, .string y]) hg6 (by simp [Value.ownBlock])))
                | (obtain ⟨_, hcur⟩ := ‹(_ ∧ _) ∧ Below wo.heap.size wo _›; refine step_append_any _ (by rfl) (.tmp 52) (.tmp 57) _ (by rfl) wo.heap.size 38 i0 _ 2 32 hu hi0 hz0 hz1 hz2 rfl (by omega) v6 (0 + m) _ (by rfl) (by first | exact hown6 | exact hown6.alloc _) _ _ 1 _ [.string x, .string y] (by rfl) (by first | exact blk_reads hN6 | exact blk_reads (Blk.new w6 _ _)) (by simp [Value.oneCell']) (by first | (simp [maxLen]; done) | (simp [maxLen]; omega)) (by omega) hcur.size ?_; intro v7 w7 hown7 hg7 hat7; have hB7 : Below wo.heap.size wo w7 := Below.grown hcur hg7 hcur.size (fun j e => (hown6.lt _ e).1); have hz7 := hB7.size)
                | (refine step_append_any _ (by rfl) (.tmp 58) (.tmp 61) _ (by rfl) wo.heap.size 38 i0 _ 2 32 hu hi0 hz0 hz1 hz2 rfl (by omega) v7 (0 + m + 1) _ (by rfl) hown7 wo.heap.size _ (k - m) _ _ (by rfl) (HD.below hB7) (labs_one _) (by first | (simp [maxLen]; done) | (simp [maxLen]; omega)) (by omega) hB7.size ?_; intro v8 w8 hown8 hg8 hat8; have hB8 : Below wo.heap.size wo w8 := hB7.grown hg8 hB7.size (fun j e => (hown7.lt _ e).1)))
              all_goals
                go_wp2_with fail
                exact ⟨⟨bl_any hbw hB8, k + 1, S.take m ++ [(x, y)] ++ S.drop m, v8, by omega, rfl, rfl, by (simp; omega), (by have h9 := own_base hown8 hwo; rw [show 0 + m + 1 + (k - m) = k + 1 by omega] at h9; simpa [labCell] using h9), by (rw [HK.out]; exact HP)⟩, by (simp only [intOf]; omega)⟩
            · have HD := hto hcp
              go_wp2_with fail
              go_quiet (fail)
              go_wp2_with fail
              go_quiet (fail)
              go_wp2_with fail
              clear hdm
              have hW0 : Below wo.heap.size wo wo := Below.refl _ _
              go_region_held3 (fun w' => (w'.cell? ⟨b, off + k * 2, none⟩ = some (.string x) ∧ w'.cell? ⟨b, off + k * 2 + 1, none⟩ = some (.string y)) ∧ Below wo.heap.size wo w') ((refine mkS e0 e1 ?_; repeat (first | assumption | exact And.right (by assumption) | refine Below.drew ?_ | refine bl_drewN ?_ _ | refine bl_alloc ?_ _))) (first
                | (obtain ⟨_, hcur⟩ := ‹(_ ∧ _) ∧ Below wo.heap.size wo _›; refine step_append_any _ (by rfl) (.const (.slice none 0 0)) (.tmp 51) _ (by rfl) wo.heap.size 38 i0 _ 2 32 hu hi0 hz0 hz1 hz2 rfl (by omega) _ 0 [] (by rfl) (World.ownsRow_nil _ _ _ _) wo.heap.size _ m _ _ (by rfl) (HT.below hcur) (labs_one _) (by first | (simp [maxLen]; done) | (simp [maxLen]; omega)) (by omega) hcur.size ?_; intro v6 w6 hown6 hg6 hat6; have hB6 : Below wo.heap.size wo w6 := Below.grown hcur hg6 hcur.size (by simp [Value.ownBlock]); have hz6 := hB6.size; (try have hN6 : Blk w6 wo.heap.size 38 #[.string x, .string y] := Blk.grown (by exact Blk.new wo 38 #[.string x, .string y]) hg6 (by simp [Value.ownBlock])))
                | (obtain ⟨_, hcur⟩ := ‹(_ ∧ _) ∧ Below wo.heap.size wo _›; refine step_append_any _ (by rfl) (.tmp 52) (.tmp 57) _ (by rfl) wo.heap.size 38 i0 _ 2 32 hu hi0 hz0 hz1 hz2 rfl (by omega) v6 (0 + m) _ (by rfl) (by first | exact hown6 | exact hown6.alloc _) _ _ 1 _ [.string x, .string y] (by rfl) (by first | exact blk_reads hN6 | exact blk_reads (Blk.new w6 _ _)) (by simp [Value.oneCell']) (by first | (simp [maxLen]; done) | (simp [maxLen]; omega)) (by omega) hcur.size ?_; intro v7 w7 hown7 hg7 hat7; have hB7 : Below wo.heap.size wo w7 := Below.grown hcur hg7 hcur.size (fun j e => (hown6.lt _ e).1); have hz7 := hB7.size)
                | (refine step_append_any _ (by rfl) (.tmp 58) (.tmp 61) _ (by rfl) wo.heap.size 38 i0 _ 2 32 hu hi0 hz0 hz1 hz2 rfl (by omega) v7 (0 + m + 1) _ (by rfl) hown7 wo.heap.size _ (k - m) _ _ (by rfl) (HD.below hB7) (labs_one _) (by first | (simp [maxLen]; done) | (simp [maxLen]; omega)) (by omega) hB7.size ?_; intro v8 w8 hown8 hg8 hat8; have hB8 : Below wo.heap.size wo w8 := hB7.grown hg8 hB7.size (fun j e => (hown7.lt _ e).1)))
              all_goals
                go_wp2_with fail
                exact ⟨⟨bl_any hbw hB8, k + 1, S.take m ++ [(x, y)] ++ S.drop m, v8, by omega, rfl, rfl, by (simp; omega), (by have h9 := own_base hown8 hwo; rw [show 0 + m + 1 + (k - m) = k + 1 by omega] at h9; simpa [labCell] using h9), by (rw [HK.out]; exact HP)⟩, by (simp only [intOf]; omega)⟩
          · have hdm : decide (0 < m) = true := decide_eq_true (by omega)
            obtain ⟨b2, off2, px, py, hA2, hg2, hpx, p0, _⟩ := lab_at hrS (show m - 1 < k by omega)
            cases hA2
            simp only [Nat.zero_add] at p0
            have hw1 : IntKind.i64.wrap ((m : Int) - 1) = (m : Int) - 1 := IntWalk.i64_in _ (by omega)
            have hw2 : ((m : Int) - 1).toNat = m - 1 := by omega
            have hw3 : (1 : Int) ≤ m := by omega
            have hw4 : (m : Int) - 1 < k := by omega
            have ep := Lib.hid (show S.getD (m - 1) default = (px, py) by rw [List.getD_eq_getElem?_getD, hpx]; rfl)
            by_cases hgt : x.data.toList < px.data.toList
            · have h1 : Op.bytesLess px.toList x.toList = false := by (rw [bytesLess_eq, ByteArray.toList_eq, ByteArray.toList_eq]; exact decide_eq_false (List.not_lt.2 (List.le_of_lt hgt)))
              have h2 : (px.toList == x.toList) = false := by (rw [ByteArray.toList_eq, ByteArray.toList_eq, beq_eq_false_iff_ne]; intro h; rw [h] at hgt; exact List.lt_irrefl _ hgt)
              have HF : Hid (∀ j, m - 1 ≤ j → j < S.length → x.data.toList < nmL (S.getD j default)) := Lib.hid (fun j h1 h2 => by
                by_cases e : j = m - 1
                · subst e; rw [ep.out]; exact hgt
                · exact HG.out j (by omega) h2)
              have hcast : (m : Int) - 1 = ((m - 1 : Nat) : Int) := by omega
              have HC := Lib.hid hcast
              clear hcast HG
              go_wp2_with fail
              go_quiet (fail)
              go_wp2_with fail
              exact ⟨⟨m - 1, _, rfl, by omega, by rw [HC.out], HF⟩, by (simp only [intOf]; omega)⟩
            · rcases bs3 px.data.toList x.data.toList with hc | hc | hc
              · have h1 : Op.bytesLess px.toList x.toList = true := by (rw [bytesLess_eq, ByteArray.toList_eq, ByteArray.toList_eq]; exact decide_eq_true hc)
                have h2 : (px.toList == x.toList) = false := by (rw [ByteArray.toList_eq, ByteArray.toList_eq, beq_eq_false_iff_ne]; intro h; rw [h] at hc; exact List.lt_irrefl _ hc)
                have HP := Lib.hid (put_sorted (x := (x, y)) (k := m) HS.out (by omega) HG.out (fun _ => by rw [ep.out]; exact hc))
                clear HG hc hgt
                by_cases hcp : cap' = m
                · have hkm : k = m := by omega
                  have HD : Reads wo wo.heap.size 2 (some ⟨g, 0, none⟩) (k - m) ((S.drop m).flatMap labCell) := by
                    rw [show k - m = 0 by omega, List.drop_of_length_le (by omega)]
                    exact ⟨rfl, fun h => absurd h (by omega)⟩
                  have HKM := Lib.hid hkm
                  clear hkm
                  go_wp2_with fail
                  go_quiet (fail)
                  go_wp2_with fail
                  go_quiet (fail)
                  go_wp2_with fail
                  have hW0 : Below wo.heap.size wo wo := Below.refl _ _
                  go_region_held3 (fun w' => (w'.cell? ⟨b, off + k * 2, none⟩ = some (.string x) ∧ w'.cell? ⟨b, off + k * 2 + 1, none⟩ = some (.string y)) ∧ Below wo.heap.size wo w') ((refine mkS e0 e1 ?_; repeat (first | assumption | exact And.right (by assumption) | refine Below.drew ?_ | refine bl_drewN ?_ _ | refine bl_alloc ?_ _))) (first
                    | (obtain ⟨_, hcur⟩ := ‹(_ ∧ _) ∧ Below wo.heap.size wo _›; refine step_append_any _ (by rfl) (.const (.slice none 0 0)) (.tmp 51) _ (by rfl) wo.heap.size 38 i0 _ 2 32 hu hi0 hz0 hz1 hz2 rfl (by omega) _ 0 [] (by rfl) (World.ownsRow_nil _ _ _ _) wo.heap.size _ m _ _ (by rfl) (HT.below hcur) (labs_one _) (by first | (simp [maxLen]; done) | (simp [maxLen]; omega)) (by omega) hcur.size ?_; intro v6 w6 hown6 hg6 hat6; have hB6 : Below wo.heap.size wo w6 := Below.grown hcur hg6 hcur.size (by simp [Value.ownBlock]); have hz6 := hB6.size; (try have hN6 : Blk w6 wo.heap.size 38 #[.string x, .string y] := Blk.grown (by exact Blk.new wo 38 #[.string x, .string y]) hg6 (by simp [Value.ownBlock])))
                    | (obtain ⟨_, hcur⟩ := ‹(_ ∧ _) ∧ Below wo.heap.size wo _›; refine step_append_any _ (by rfl) (.tmp 52) (.tmp 57) _ (by rfl) wo.heap.size 38 i0 _ 2 32 hu hi0 hz0 hz1 hz2 rfl (by omega) v6 (0 + m) _ (by rfl) (by first | exact hown6 | exact hown6.alloc _) _ _ 1 _ [.string x, .string y] (by rfl) (by first | exact blk_reads hN6 | exact blk_reads (Blk.new w6 _ _)) (by simp [Value.oneCell']) (by first | (simp [maxLen]; done) | (simp [maxLen]; omega)) (by omega) hcur.size ?_; intro v7 w7 hown7 hg7 hat7; have hB7 : Below wo.heap.size wo w7 := Below.grown hcur hg7 hcur.size (fun j e => (hown6.lt _ e).1); have hz7 := hB7.size)
                    | (refine step_append_any _ (by rfl) (.tmp 58) (.tmp 61) _ (by rfl) wo.heap.size 38 i0 _ 2 32 hu hi0 hz0 hz1 hz2 rfl (by omega) v7 (0 + m + 1) _ (by rfl) hown7 wo.heap.size _ (k - m) _ _ (by rfl) (HD.below hB7) (labs_one _) (by first | (simp [maxLen]; done) | (simp [maxLen]; omega)) (by omega) hB7.size ?_; intro v8 w8 hown8 hg8 hat8; have hB8 : Below wo.heap.size wo w8 := hB7.grown hg8 hB7.size (fun j e => (hown7.lt _ e).1)))
                  all_goals
                    go_wp2_with fail
                    exact ⟨⟨bl_any hbw hB8, k + 1, S.take m ++ [(x, y)] ++ S.drop m, v8, by omega, rfl, rfl, by (simp; omega), (by have h9 := own_base hown8 hwo; rw [show 0 + m + 1 + (k - m) = k + 1 by omega] at h9; simpa [labCell] using h9), by (rw [HK.out]; exact HP)⟩, by (simp only [intOf]; omega)⟩
                · have HD := hto hcp
                  go_wp2_with fail
                  go_quiet (fail)
                  go_wp2_with fail
                  go_quiet (fail)
                  go_wp2_with fail
                  have hW0 : Below wo.heap.size wo wo := Below.refl _ _
                  go_region_held3 (fun w' => (w'.cell? ⟨b, off + k * 2, none⟩ = some (.string x) ∧ w'.cell? ⟨b, off + k * 2 + 1, none⟩ = some (.string y)) ∧ Below wo.heap.size wo w') ((refine mkS e0 e1 ?_; repeat (first | assumption | exact And.right (by assumption) | refine Below.drew ?_ | refine bl_drewN ?_ _ | refine bl_alloc ?_ _))) (first
                    | (obtain ⟨_, hcur⟩ := ‹(_ ∧ _) ∧ Below wo.heap.size wo _›; refine step_append_any _ (by rfl) (.const (.slice none 0 0)) (.tmp 51) _ (by rfl) wo.heap.size 38 i0 _ 2 32 hu hi0 hz0 hz1 hz2 rfl (by omega) _ 0 [] (by rfl) (World.ownsRow_nil _ _ _ _) wo.heap.size _ m _ _ (by rfl) (HT.below hcur) (labs_one _) (by first | (simp [maxLen]; done) | (simp [maxLen]; omega)) (by omega) hcur.size ?_; intro v6 w6 hown6 hg6 hat6; have hB6 : Below wo.heap.size wo w6 := Below.grown hcur hg6 hcur.size (by simp [Value.ownBlock]); have hz6 := hB6.size; (try have hN6 : Blk w6 wo.heap.size 38 #[.string x, .string y] := Blk.grown (by exact Blk.new wo 38 #[.string x, .string y]) hg6 (by simp [Value.ownBlock])))
                    | (obtain ⟨_, hcur⟩ := ‹(_ ∧ _) ∧ Below wo.heap.size wo _›; refine step_append_any _ (by rfl) (.tmp 52) (.tmp 57) _ (by rfl) wo.heap.size 38 i0 _ 2 32 hu hi0 hz0 hz1 hz2 rfl (by omega) v6 (0 + m) _ (by rfl) (by first | exact hown6 | exact hown6.alloc _) _ _ 1 _ [.string x, .string y] (by rfl) (by first | exact blk_reads hN6 | exact blk_reads (Blk.new w6 _ _)) (by simp [Value.oneCell']) (by first | (simp [maxLen]; done) | (simp [maxLen]; omega)) (by omega) hcur.size ?_; intro v7 w7 hown7 hg7 hat7; have hB7 : Below wo.heap.size wo w7 := Below.grown hcur hg7 hcur.size (fun j e => (hown6.lt _ e).1); have hz7 := hB7.size)
                    | (refine step_append_any _ (by rfl) (.tmp 58) (.tmp 61) _ (by rfl) wo.heap.size 38 i0 _ 2 32 hu hi0 hz0 hz1 hz2 rfl (by omega) v7 (0 + m + 1) _ (by rfl) hown7 wo.heap.size _ (k - m) _ _ (by rfl) (HD.below hB7) (labs_one _) (by first | (simp [maxLen]; done) | (simp [maxLen]; omega)) (by omega) hB7.size ?_; intro v8 w8 hown8 hg8 hat8; have hB8 : Below wo.heap.size wo w8 := hB7.grown hg8 hB7.size (fun j e => (hown7.lt _ e).1)))
                  all_goals
                    go_wp2_with fail
                    exact ⟨⟨bl_any hbw hB8, k + 1, S.take m ++ [(x, y)] ++ S.drop m, v8, by omega, rfl, rfl, by (simp; omega), (by have h9 := own_base hown8 hwo; rw [show 0 + m + 1 + (k - m) = k + 1 by omega] at h9; simpa [labCell] using h9), by (rw [HK.out]; exact HP)⟩, by (simp only [intOf]; omega)⟩
              · have h1 : Op.bytesLess px.toList x.toList = false := by (rw [bytesLess_eq, ByteArray.toList_eq, ByteArray.toList_eq]; exact decide_eq_false (by rw [hc]; exact List.lt_irrefl _))
                have h2 : (px.toList == x.toList) = true := by (rw [ByteArray.toList_eq, ByteArray.toList_eq, beq_iff_eq]; exact hc)
                have HF := Lib.hid (dup_take HS.out hx (j := m - 1) (by omega) (by rw [ep.out]; exact hc))
                clear HG hc hgt
                go_wp2_with fail
                go_quiet (fail)
                go_wp2_with fail
                go_quiet (fail)
                go_wp2_with fail
                go_ret2
                exact ⟨sortE_no HF.out, by repeat (first | assumption | refine bl_drewN ?_ _)⟩
              · exact absurd hc hgt
    · have hdk : decide ((k : Int) < n) = false := decide_eq_false (by omega)
      obtain rfl : k = n := by omega
      have HF : Hid (sortL L = some S) := Lib.hid (sortL_some (by have := HS.out; rw [List.take_of_length_le (by omega)] at this; exact this))
      obtain ⟨A', cap', rfl, hrS⟩ := own_rws (f := labCell) (fun _ => rfl) hown hS
      go_wp2_with fail
      go_ret2
      exact ⟨sortE_yes HF.out hrS (by omega), hbw⟩
end Go.Proofs.Ytlolbpefeagclaa
