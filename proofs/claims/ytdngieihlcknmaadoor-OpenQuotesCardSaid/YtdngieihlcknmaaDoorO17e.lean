/- The walk of OpenQuotes. -/
import Derived.Test.YtdngieihlcknmaaDoorO17a
import Derived.Test.YtdngieihlcknmaaDoorOpenQ
import Derived.Test.YtdngieihlcknmaaDoorUtfRef
namespace Go.Proofs.YtdngieihlcknmaaDoor
set_option linter.unusedVariables false
set_option linter.unusedSimpArgs false
open Go.RowKit
theorem escQ_not10 (v : List UInt8) : (10 : UInt8) ∉ escQ true v := by
  unfold escQ
  intro h
  obtain ⟨c, _, hc⟩ := List.mem_flatMap.1 h
  unfold e17 at hc
  split at hc
  · simp at hc
  · split at hc
    · simp at hc
    · rename_i h10
      split at hc
      · simp at hc
      · simp at hc; exact h10 hc.symm
theorem escQ_len (q : Bool) (v : List UInt8) : v.length ≤ (escQ q v).length := by
  induction v with
  | nil => simp [escQ]
  | cons c v ih =>
    rw [show c :: v = [c] ++ v from rfl, escQ_app, escQ_one, List.length_append, List.length_append]
    have : 1 ≤ (e17 q c).length := by unfold e17; (repeat' split) <;> simp
    simp; omega
theorem escQ_len2 (v : List UInt8) : (escQ false v).length ≤ (escQ true v).length := by
  induction v with
  | nil => simp [escQ]
  | cons c v ih =>
    rw [show c :: v = [c] ++ v from rfl, escQ_app, escQ_app, escQ_one, escQ_one, List.length_append, List.length_append]
    have : (e17 false c).length ≤ (e17 true c).length := by unfold e17; (repeat' split) <;> simp_all
    omega
theorem escQ_34 : ∀ (v : List UInt8) (k : Nat), (escQ true v)[k]? = some 34 → ∃ j, k = j + 1 ∧ (escQ true v)[j]? = some 92
  | [], k, h => by simp [escQ] at h
  | c :: v, k, h => by
    rw [show c :: v = [c] ++ v from rfl, escQ_app, escQ_one] at h ⊢
    rcases Nat.lt_or_ge k (e17 true c).length with hk | hk
    · rw [List.getElem?_append_left hk] at h
      have two : e17 true c = [92, 92] ∨ e17 true c = [92, 110] ∨ e17 true c = [92, 34] ∨ (e17 true c = [c] ∧ c ≠ 34) := by
        unfold e17
        by_cases h1 : c = 92
        · simp [h1]
        · by_cases h2 : c = 10
          · simp [h2]
          · by_cases h3 : c = 34
            · simp [h3]
            · simp [h1, h2, h3]
      rcases two with e | e | e | ⟨e, hc⟩
      · rw [e] at h hk; match k, hk with
        | 0, _ => simp at h
        | 1, _ => simp at h
      · rw [e] at h hk; match k, hk with
        | 0, _ => simp at h
        | 1, _ => simp at h
      · rw [e] at h hk ⊢; match k, hk with
        | 0, _ => simp at h
        | 1, _ => exact ⟨0, rfl, by simp⟩
      · rw [e] at h hk; match k, hk with
        | 0, _ => simp at h; exact absurd h hc
    · rw [List.getElem?_append_right hk] at h
      obtain ⟨j, hj, h2⟩ := escQ_34 v _ h
      refine ⟨j + (e17 true c).length, by omega, ?_⟩
      rw [List.getElem?_append_right (by omega), Nat.add_sub_cancel]
      exact h2
/-- What stands in memory of the rows that were read. -/
def QAt (w : World) (bk off tb to_ tc : Nat) (v : ByteArray) : Prop :=
  (w.cell? ⟨bk, off, none⟩ = some (.int .i64 3) ∧ w.cell? ⟨bk, off + 5, none⟩ = some (.string v) ∧ w.cell? ⟨bk, off + 10 + 3, none⟩ = some (.slice (some ⟨tb, to_, none⟩) 2 tc)) ∧
  (w.cell? ⟨tb, to_ + 1, none⟩ = some (.string v) ∧ w.cell? ⟨tb, to_ + 4 + 1, none⟩ = some (.string ⟨#[]⟩))
def QuoteE (v : ByteArray) (en : Ending) (w : World) : Prop := ∃ bk off k tb to_ tc, en = .returned (.tuple #[.slice (some ⟨bk, off, none⟩) 2 k, .bool true]) ∧ QAt w bk off tb to_ tc v
theorem quote_rows {s v : ByteArray} (hs : s.size ≤ 1048576) {R1 R2 : MRow} {n : Nat} (h : openRows s.data.toList = ([R1, R2], n, false)) (hq : QuotedRows v.data.toList R1 R2) (w : World) :
    Calls Tryd.prog 9 #[.string s] w fun en w' => QuoteE v en w' ∧ Below w.heap.size w w' := by
  refine (rows_any s w hs).mono ?_
  rintro en w' ⟨⟨A, m, k, rfl, hR⟩, hb⟩
  rw [h] at hR ⊢
  simp only [Bool.false_eq_true, if_false] at hR
  obtain ⟨l, hl, hr, ha⟩ := hR
  obtain ⟨x, y, rfl⟩ : ∃ x y, l = [x, y] := by
    have := congrArg List.length hl
    rw [List.length_map] at this
    rcases l with _ | ⟨x, _ | ⟨y, _ | ⟨z, l⟩⟩⟩ <;> simp at this
    exact ⟨x, y, rfl⟩
  obtain rfl : 2 = m := hr.1
  obtain ⟨row, tA, tc, fA, fc⟩ := x
  obtain ⟨row2, tA2, tc2, fA2, fc2⟩ := y
  simp only [List.map_cons, List.map_nil, List.cons.injEq, and_true] at hl
  obtain ⟨hl1, hl2⟩ := hl
  subst hl1 hl2
  obtain ⟨q1, q2, t, u, q3, q4, q5⟩ := hq
  obtain ⟨ht, hf⟩ := ha _ (List.mem_cons_of_mem _ List.mem_cons_self)
  obtain ⟨b, off, rfl, hbl, hc⟩ := hr.2 (by omega)
  simp only at ht
  obtain ⟨b2, off2, e2, hbl2, hc2⟩ := ht.2 (by rw [q3]; simp)
  have c3 := hc 1 _ 3 _ rfl rfl
  have c0 := hc 0 _ 0 _ rfl rfl
  have c5 := hc 0 _ 5 _ rfl rfl
  have t1 := hc2 0 t 1 _ (by rw [q3]; rfl) rfl
  have t2 := hc2 1 u 1 _ (by rw [q3]; rfl) rfl
  simp only at c3 c0 c5
  rw [e2, q3] at c3
  rw [q1] at c0
  rw [q2, mk_self] at c5
  rw [q4, mk_self] at t1
  rw [q5] at t2
  exact ⟨⟨b, off, k, b2, off2, tc2, rfl, ⟨c0, c5, c3⟩, t1, t2⟩, hb⟩
theorem quote_str (v : List UInt8) : (((((⟨#[35, 32, 72, 69, 76, 80, 32, 97, 32]⟩ : ByteArray) ++ mkS (helpL v)) ++ (⟨#[10, 97, 123, 98, 61, 34]⟩ : ByteArray)) ++ mkS (oquoteL v)) ++ (⟨#[34, 44, 99, 61, 34, 34, 125, 32, 49, 10, 35, 32, 69, 79, 70, 10]⟩ : ByteArray)).data.toList = quoteText v := by
  simp only [str_app]
  rw [helpL_eq, oquoteL_eq]
  unfold quoteText mkS
  simp
set_option maxRecDepth 100000 in
set_option maxHeartbeats 6400000 in
theorem quotes17_any (v : ByteArray) (m : Int) (w : World) (hm : MxAt w m) (hv : v.size ≤ 9223372036854775807) :
    Calls Tryd.prog 6 #[.string v] w fun e w' => e = .returned (.bool true) ∧ Below w.heap.size w w' := by
  by_cases h1 : 200 < v.size
  · have d1 : decide ((200 : Int) < v.size) = true := decide_eq_true (by omega)
    go_enter Tryd.func6, Tryd.ntmps6
    go_wp2_with (go_at_call 8; refine (known17_any m _ hm).mono ?_; rintro e w1 ⟨rfl, hb1⟩)
    go_ret
    exact ⟨rfl, hb1⟩
  have d1 : decide ((200 : Int) < v.size) = false := decide_eq_false (by omega)
  have kE := fun W => refBadU_any v W (by omega)
  have hN5 : ¬ 0 ≤ badU v.data.toList → badU v.data.toList = -1 := fun h => by have := badU_bd v.data.toList; omega
  obtain ⟨E0, hE0⟩ : ∃ E0, badU v.data.toList = E0 := ⟨_, rfl⟩
  rw [hE0] at kE
  by_cases q5 : 0 ≤ E0
  · have p5 : decide (0 ≤ E0) = true := decide_eq_true q5
    clear hE0 hN5
    go_enter Tryd.func6, Tryd.ntmps6
    go_wp2_with (first
      | (go_at_call 8; refine (known17_any m _ hm).mono ?_; rintro e w1 ⟨rfl, hb1⟩)
      | (go_at_call 17; (with_reducible refine (kE _).mono ?_); rintro e w1 ⟨rfl, rfl⟩))
    go_ret
    exact ⟨rfl, hb1⟩
  have p5 : decide (0 ≤ E0) = false := decide_eq_false q5
  have hbu : badU v.data.toList = -1 := hN5 (by rw [hE0]; exact q5)
  obtain ⟨R1, R2, hR, hQ⟩ := open_quotes hbu
  have hL : v.data.toList.length = v.size := by simp
  have kQ := fun W hm => oquote_any v m W (by omega) hm
  have kH := fun W hm => help_any v m W (by omega) hm
  have kR := fun W hs => quote_rows (v := v) (s := (((((⟨#[35, 32, 72, 69, 76, 80, 32, 97, 32]⟩ : ByteArray) ++ mkS (helpL v.data.toList)) ++ (⟨#[10, 97, 123, 98, 61, 34]⟩ : ByteArray)) ++ mkS (oquoteL v.data.toList)) ++ (⟨#[34, 44, 99, 61, 34, 34, 125, 32, 49, 10, 35, 32, 69, 79, 70, 10]⟩ : ByteArray))) (w := W) hs (by rw [quote_str]; exact hR) hQ
  have zH : (mkS (helpL v.data.toList)).size ≤ 800 := by
    show (helpL v.data.toList).length ≤ _
    have := helpL_len v.data.toList; omega
  have zQ : (mkS (oquoteL v.data.toList)).size ≤ 1600 := by
    show (oquoteL v.data.toList).length ≤ _
    have := oquoteL_len v.data.toList; omega
  have z2 : v.size ≤ (mkS (helpL v.data.toList)).size := by
    show _ ≤ (helpL v.data.toList).length
    rw [helpL_eq]; have := escQ_len false v.data.toList; omega
  have z3 : (mkS (helpL v.data.toList)).size ≤ (mkS (oquoteL v.data.toList)).size := by
    show (helpL v.data.toList).length ≤ (oquoteL v.data.toList).length
    rw [helpL_eq, oquoteL_eq]; exact escQ_len2 _
  have f10 : ∀ (k : Nat) (hk : k < (mkS (oquoteL v.data.toList)).size), ((((mkS (oquoteL v.data.toList))[k]'hk).toNat : Int) == 10) = false := by
    intro k hk
    rw [beq_eq_false_iff_ne]
    intro e
    apply escQ_not10 v.data.toList
    rw [← oquoteL_eq]
    have e2 : (mkS (oquoteL v.data.toList))[k]'hk = 10 := UInt8.toNat_inj.1 (by show _ = 10; omega)
    have e3 : (oquoteL v.data.toList)[k]'hk = 10 := by rw [← e2]; rfl
    rw [← e3]; exact List.getElem_mem _
  have f34 : ∀ (k : Nat) (hk : k < (mkS (oquoteL v.data.toList)).size), ((((mkS (oquoteL v.data.toList))[k]'hk).toNat : Int) == 34) = true → ∃ j, k = j + 1 ∧ ∃ hj : j < (mkS (oquoteL v.data.toList)).size, ((((mkS (oquoteL v.data.toList))[j]'hj).toNat : Int) == 92) = true := by
    intro k hk h
    rw [beq_iff_eq] at h
    have e2 : (mkS (oquoteL v.data.toList))[k]'hk = 34 := UInt8.toNat_inj.1 (by show _ = 34; omega)
    have e3 : (oquoteL v.data.toList)[k]'hk = 34 := by rw [← e2]; rfl
    have e4 : (escQ true v.data.toList)[k]? = some 34 := by rw [← oquoteL_eq, List.getElem?_eq_getElem hk, e3]
    obtain ⟨j, hj, e5⟩ := escQ_34 _ _ e4
    rw [← oquoteL_eq] at e5
    obtain ⟨hj2, e6⟩ := List.getElem?_eq_some_iff.1 e5
    refine ⟨j, hj, hj2, ?_⟩
    have e7 : (mkS (oquoteL v.data.toList))[j]'hj2 = 92 := by rw [← e6]; rfl
    rw [e7]; decide
  clear hR hQ hN5 hbu hE0 hL
  generalize mkS (helpL v.data.toList) = VH at kR kH zH z2 z3
  generalize mkS (oquoteL v.data.toList) = VQ at kR kQ zQ z3 f10 f34
  have kR2 := fun W => kR W (by simp only [ByteArray.size_append]; have : (⟨#[35, 32, 72, 69, 76, 80, 32, 97, 32]⟩ : ByteArray).size = 9 := rfl; have : (⟨#[10, 97, 123, 98, 61, 34]⟩ : ByteArray).size = 6 := rfl; have : (⟨#[34, 44, 99, 61, 34, 34, 125, 32, 49, 10, 35, 32, 69, 79, 70, 10]⟩ : ByteArray).size = 16 := rfl; omega)
  clear kR
  have y1 : ¬ 9223372036854775807 < 9 + VH.size := by omega
  have y2 : ¬ 9223372036854775807 < 9 + VH.size + 6 := by omega
  have y3 : ¬ 9223372036854775807 < 9 + VH.size + 6 + VQ.size := by omega
  have y4 : ¬ 9223372036854775807 < 9 + VH.size + 6 + VQ.size + 16 := by omega
  have dz2 : decide ((v.size : Int) ≤ VH.size) = true := decide_eq_true (by omega)
  have dz3 : decide ((VH.size : Int) ≤ VQ.size) = true := decide_eq_true (by omega)
  go_enter Tryd.func6, Tryd.ntmps6
  go_wp2_with (first
    | (go_at_call 8; refine (known17_any m _ hm).mono ?_; rintro e w1 ⟨rfl, hb1⟩)
    | (go_at_call 17; (with_reducible refine (kE _).mono ?_); rintro e w1 ⟨rfl, rfl⟩)
    | (go_at_call 13; (with_reducible refine (kQ _ (hm.below hb1)).mono ?_); rintro e w2 ⟨rfl, hb2⟩; have B2 := bl_any hb1 hb2)
    | (go_at_call 15; (with_reducible refine (kH _ (hm.below B2)).mono ?_); rintro e w3 ⟨rfl, hb3⟩; have B3 := bl_any B2 hb3)
    | (go_at_call 9; refine (kR2 _).mono ?_; rintro e w7 ⟨⟨bk, off, kk, tb, to_, tc, rfl, ⟨c0, c5, c3⟩, t1, t2⟩, hb7⟩; have B7 := bl_any B3 hb7))
  clear kE kQ kH kR2
  go_loopw [7] (fun i wr => wr = w7 ∧ ∃ k : Nat, k ≤ VQ.size ∧ i = .int .i64 k) (fun i _ => VQ.size - (intOf i).toNat)
  case atStart => exact ⟨rfl, 0, by omega, rfl⟩
  case round =>
    obtain ⟨rfl, k, hk, rfl⟩ := hrel
    by_cases hlt : k < VQ.size
    case pos =>
      have hd3 : decide ((k : Int) < VQ.size) = true := decide_eq_true (by omega)
      have hi0 : (0 : Int) ≤ k := by omega
      have hi1 : (k : Int) < VQ.size := by omega
      have g10 := f10 k hlt
      cases h34 : (((VQ[k]'hlt).toNat : Int) == 34)
      · clear f10 f34
        go_wp2_with fail
        exact ⟨⟨trivial, k + 1, by omega, rfl⟩, by (simp only [intOf]; omega)⟩
      · obtain ⟨j, rfl, hj, h92⟩ := f34 k hlt h34
        have hk0 : (((j + 1 : Nat) : Int) == 0) = false := by rw [beq_eq_false_iff_ne]; omega
        have hj0 : (0 : Int) ≤ j := by omega
        have hj1 : (j : Int) < VQ.size := by omega
        have hk1 : (((j : Int) + 1) == 0) = false := by rw [beq_eq_false_iff_ne]; omega
        have h93 : (((VQ[j]'hj).toNat : Int) != 92) = false := by rw [beq_iff_eq.1 h92]; rfl
        clear f10 f34 h92
        go_wp2_with fail
        exact ⟨⟨trivial, j + 1 + 1, by omega, congrArg (Value.int .i64) (by omega)⟩, by (simp only [intOf]; omega)⟩
    case neg =>
      have hd3 : decide ((k : Int) < VQ.size) = false := decide_eq_false (by omega)
      clear f10 f34
      go_wp2_with fail
      go_ret
      exact ⟨rfl, B7⟩
end Go.Proofs.YtdngieihlcknmaaDoor
