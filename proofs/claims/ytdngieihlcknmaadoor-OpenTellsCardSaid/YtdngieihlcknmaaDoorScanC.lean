/- The walks of package scan: numbers, scalars, signs behind backslashes. -/
import Derived.Test.YtdngieihlcknmaaDoorScanB
import Derived.Test.YtdngieihlcknmaaDoorBuild
import Derived.Test.YtdngieihlcknmaaDoorShelfE
namespace Go.Proofs.YtdngieihlcknmaaDoor
set_option linter.unusedVariables false
set_option linter.unusedSimpArgs false
open Go.RowKit
theorem numS_eq (l : List UInt8) (a : Nat) (no : Bool) : numS l a no = someS l digB (takeA l a no 45) no := by
  cases no
  · rfl
  · simp [numS, someS, takeA, isB, pkB]
set_option maxHeartbeats 1600000 in
theorem whole_any (g : Nat) (s : ByteArray) (a : Nat) (no : Bool) (b' : Nat) (n' : Bool) (w : World) (h : Sc w g s a no) (ha : a ≤ s.size) (hs : s.size ≤ 4611686018427387904) (hR : numS s.data.toList a no = (b', n')) :
    Calls Tryd.prog 78 #[.pointer (some ⟨g, 0, none⟩)] w fun e w' => e = .returned (.string (s.extract a b')) ∧ Sc w' g s b' n' ∧ Aw [g] w w' := by
  have hL : s.data.toList.length = s.size := by simp
  have hle := takeA_le s.data.toList a no 45 (by rw [hL]; exact ha)
  have hle2 := numS_le s.data.toList a no (by rw [hL]; exact ha)
  rw [numS_eq] at hR
  rw [numS_eq, hR, hL] at hle2
  rw [hL] at hle
  have kT := takes_any g s a no 45
  obtain ⟨c, hc⟩ : ∃ c, takeA s.data.toList a no 45 = c := ⟨_, rfl⟩
  rw [hc] at kT hR hle
  have kS := fun w h => some_dig g s c no b' n' w h hle.2 hs hR
  have ha0 : (0 : Int) ≤ a := by omega
  have hab : (a : Int) ≤ b' := by have := hle2.1; simp only at this; omega
  have hbs : (b' : Int) ≤ s.size := by have := hle2.2; simp only at this; omega
  obtain ⟨⟨c0, c1, c2⟩, f1, f2⟩ := h.facts
  clear hR hc hL hle2
  go_enter Tryd.func78, Tryd.ntmps78
  go_wp2_with (first
    | (go_at_call 46; refine (kT _ h ha hs).mono ?_; rintro e w1 ⟨rfl, h1, hA1⟩)
    | (go_at_call 63; refine (kS _ h1).mono ?_; rintro e w2 ⟨rfl, h2, hA2⟩; obtain ⟨⟨d0, d1, d2⟩, g1, g2⟩ := h2.facts))
  go_quiet (fail)
  go_wp2_with fail
  go_ret
  exact ⟨rfl, h2.drewN _, (hA1.trans hA2).drewN _⟩
set_option maxHeartbeats 1600000 in
theorem dec_any (g : Nat) (s : ByteArray) (a : Nat) (no : Bool) (b' : Nat) (n' : Bool) (w : World) (h : Sc w g s a no) (ha : a ≤ s.size) (hs : s.size ≤ 4611686018427387904) (hR : decS s.data.toList a no = (b', n')) :
    Calls Tryd.prog 62 #[.pointer (some ⟨g, 0, none⟩)] w fun e w' => e = .returned (.string (s.extract a b')) ∧ Sc w' g s b' n' ∧ Aw [g] w w' := by
  have hL : s.data.toList.length = s.size := by simp
  have hle2 := decS_le s.data.toList a no (by rw [hL]; exact ha)
  have hle := numS_le s.data.toList a no (by rw [hL]; exact ha)
  rw [hR, hL] at hle2
  rw [hL] at hle
  have hab : (a : Int) ≤ b' := by have := hle2.1; simp only at this; omega
  have hbs : (b' : Int) ≤ s.size := by have := hle2.2; simp only at this; omega
  have ha0 : (0 : Int) ≤ a := by omega
  obtain ⟨c, n1, hc⟩ : ∃ c n1, numS s.data.toList a no = (c, n1) := ⟨_, _, rfl⟩
  have kW := fun w h => whole_any g s a no c n1 w h ha hs hc
  unfold decS at hR
  rw [hc] at hR hle
  simp only at hR hle
  have kT := takes_any g s c n1 46
  obtain ⟨⟨c0, c1, c2⟩, f1, f2⟩ := h.facts
  cases n1
  · simp only [Bool.false_eq_true, if_false] at hR
    unfold takeA at kT
    cases hq : isB s.data.toList c false 46
    · rw [hq] at kT hR
      simp only [Bool.false_eq_true, if_false] at kT hR
      obtain ⟨rfl, rfl⟩ : c = b' ∧ false = n' := by injection hR with e1 e2; exact ⟨e1, e2⟩
      clear hR hc hL hq hle2
      go_enter Tryd.func62, Tryd.ntmps62
      go_wp2_with (first
        | (go_at_call 78; refine (kW _ h).mono ?_; rintro e w1 ⟨rfl, h1, hA1⟩)
        | (go_at_call 46; refine (kT _ h1 hle.2 hs).mono ?_; rintro e w2 ⟨rfl, h2, hA2⟩; obtain ⟨⟨d0, d1, d2⟩, g1, g2⟩ := h2.facts))
      go_quiet (fail)
      go_wp2_with fail
      go_ret
      exact ⟨rfl, h2.drewN _, (hA1.trans hA2).drewN _⟩
    · have hlt := (isB_lt hq).1
      rw [hL] at hlt
      rw [hq] at kT hR
      simp only [if_true] at kT hR
      have kS := fun w h => some_dig g s (c + 1) false b' n' w h hlt hs hR
      clear hR hc hL hq hle2
      go_enter Tryd.func62, Tryd.ntmps62
      go_wp2_with (first
        | (go_at_call 78; refine (kW _ h).mono ?_; rintro e w1 ⟨rfl, h1, hA1⟩)
        | (go_at_call 46; refine (kT _ h1 hle.2 hs).mono ?_; rintro e w2 ⟨rfl, h2, hA2⟩)
        | (go_at_call 63; refine (kS _ h2).mono ?_; rintro e w3 ⟨rfl, h3, hA3⟩; obtain ⟨⟨d0, d1, d2⟩, g1, g2⟩ := h3.facts))
      go_quiet (fail)
      go_wp2_with fail
      go_ret
      exact ⟨rfl, h3.drewN _, ((hA1.trans hA2).trans hA3).drewN _⟩
  · simp only [if_true] at hR
    obtain ⟨rfl, rfl⟩ : c = b' ∧ true = n' := by injection hR with e1 e2; exact ⟨e1, e2⟩
    rw [show takeA s.data.toList c true 46 = c from rfl, show isB s.data.toList c true 46 = false from rfl] at kT
    clear hR hc hL hle2
    go_enter Tryd.func62, Tryd.ntmps62
    go_wp2_with (first
      | (go_at_call 78; refine (kW _ h).mono ?_; rintro e w1 ⟨rfl, h1, hA1⟩)
      | (go_at_call 46; refine (kT _ h1 hle.2 hs).mono ?_; rintro e w2 ⟨rfl, h2, hA2⟩; obtain ⟨⟨d0, d1, d2⟩, g1, g2⟩ := h2.facts))
    go_quiet (fail)
    go_wp2_with fail
    go_ret
    exact ⟨rfl, h2.drewN _, (hA1.trans hA2).drewN _⟩
/-- What utf.Next tells: the scalar is left open. -/
def NextE (n : Nat) (ok : Bool) (e : Ending) : Prop := ∃ r : Int, e = .returned (.tuple #[.int .i32 r, .int .i64 (n : Int), .bool ok])
set_option maxHeartbeats 1600000 in
theorem unext_any (s : ByteArray) (a n : Nat) (ok : Bool) (w : World) (ha : a < s.size) (hs : s.size ≤ 4611686018427387904) (hf : frontU s.data.toList a = (n, ok)) :
    Calls Tryd.prog 92 #[.string s, .int .i64 a] w fun e w' => NextE (if ok then n else 0) ok e ∧ Below w.heap.size w w' := by
  have k := fun W => ufront_any s a W ha hs
  unfold FrontE at k
  rw [hf] at k
  have ha0 : (0 : Int) ≤ a := by omega
  have ha1 : (a : Int) < s.size := by omega
  cases ok
  all_goals
    clear hf
    go_enter Tryd.func92, Tryd.ntmps92
    go_wp2_with (go_at_call 96; refine (k _).mono ?_; rintro e w1 ⟨⟨r, rfl⟩, hb1⟩)
    go_ret3
    exact ⟨⟨_, rfl⟩, hb1⟩
theorem bt_take4 (l : List UInt8) (a k : Nat) (hk : k < 4) : bt ((l.drop a).take 4) k = bt l (a + k) := by
  unfold bt
  rw [List.getD_eq_getElem?_getD, List.getD_eq_getElem?_getD, List.getElem?_take_of_lt hk, List.getElem?_drop]
theorem tail_take4 (l : List UInt8) (a k : Nat) (hk : k < 4) : tailB ((l.drop a).take 4) 0 k = tailB l a k := by
  have h0 := bt_take4 l a 0 (by omega)
  have h1 := bt_take4 l a k hk
  have h2 : decide (0 + k < ((l.drop a).take 4).length) = decide (a + k < l.length) := by
    apply decide_eq_decide.2
    rw [List.length_take, List.length_drop]; omega
  unfold tailB
  rw [h2, h0, Nat.zero_add, h1, Nat.add_zero]
theorem frGo_take4 (l : List UInt8) (a n : Nat) (hn : n ≤ 4) : ∀ f k, frGo ((l.drop a).take 4) 0 n f k = frGo l a n f k
  | 0, k => rfl
  | f + 1, k => by
    unfold frGo
    by_cases hk : k < n
    · rw [if_pos hk, if_pos hk, tail_take4 l a k (by omega), frGo_take4 l a n hn f (k + 1)]
    · rw [if_neg hk, if_neg hk]
theorem front_take4 (l : List UInt8) (a : Nat) : frontU ((l.drop a).take 4) 0 = frontU l a := by
  unfold frontU
  have h0 := bt_take4 l a 0 (by omega)
  rw [Nat.add_zero] at h0
  rw [h0, frGo_take4 l a _ (uSize_le _)]
theorem bad_take4 (l : List UInt8) (a n : Nat) (ha : a < l.length) (h : frontU l a = (n, false)) : badU ((l.drop a).take 4) = n := by
  have hl : ((l.drop a).take 4).length = min 4 (l.length - a) := by rw [List.length_take, List.length_drop]
  unfold badU
  obtain ⟨f, hf⟩ : ∃ f, ((l.drop a).take 4).length = f + 1 := ⟨((l.drop a).take 4).length - 1, by omega⟩
  rw [hf, badGo_no (by omega) (by rw [front_take4, h])]
  rw [front_take4, h]
  show (0 : Int) + (n : Nat) = n
  omega
/-- The scanner's cells and frame, as a region holds them. -/
def ScH (w0 : World) (g : Nat) (s : ByteArray) (a : Nat) (no : Bool) (w : World) : Prop := Sc w g s a no ∧ Aw [g] w0 w
theorem ScH.drew {w0 : World} {g : Nat} {s : ByteArray} {a : Nat} {no : Bool} {w : World} (h : ScH w0 g s a no w) : ScH w0 g s a no w.drew := ⟨h.1.drew, h.2.drew⟩
theorem ScH.bel {w0 : World} {g : Nat} {s : ByteArray} {a : Nat} {no : Bool} {w w' : World} (h : ScH w0 g s a no w) (k : Below w.heap.size w w') : ScH w0 g s a no w' := ⟨h.1.below k h.1.lt, h.2.bel k⟩
theorem ScH.full {w0 : World} {g : Nat} {s : ByteArray} {a : Nat} {no : Bool} {w : World} (h : ScH w0 g s a no w) : (w.cell? ⟨g, 0, none⟩ = some (.string s) ∧ w.cell? ⟨g, 1, none⟩ = some (.int .i64 (a : Int))) ∧ ScH w0 g s a no w := ⟨⟨h.1.facts.1.1, h.1.facts.1.2.1⟩, h⟩
theorem ext_bytes (s : ByteArray) (a b : Nat) : (s.extract a b).data.toList = (s.data.toList.drop a).take (b - a) := by
  rw [ByteArray.data_extract, Array.toList_extract, List.extract_eq_take_drop]
set_option maxRecDepth 100000 in
set_option maxHeartbeats 3200000 in
theorem scalar_any (g : Nat) (s : ByteArray) (a n : Nat) (ok : Bool) (w : World) (h : Sc w g s a false) (ha : a < s.size) (hs : s.size ≤ 4611686018427387904) (hf : frontU s.data.toList a = (n, ok)) :
    Calls Tryd.prog 81 #[.pointer (some ⟨g, 0, none⟩)] w fun e w' => e = .returned (.string (s.extract a (a + n))) ∧ Sc w' g s (a + n) (!ok) ∧ Aw [g] w w' := by
  have hL : s.data.toList.length = s.size := by simp
  have kN := fun W => unext_any s a n ok W ha hs hf
  have hfl := front_le s.data.toList a (by rw [hL]; exact ha)
  rw [hf, hL] at hfl
  have hH0 : ScH w g s a false w := ⟨h, Aw.refl _ _⟩
  have ha0 : (0 : Int) ≤ a := by omega
  have hn0 : (a : Int) + n ≤ s.size := by have := hfl.2.1; simp only at this; omega
  have hw1 : IntKind.i64.wrap (a : Int) = a := IntWalk.i64_in _ (by omega)
  have hw2 : ((a : Int) + n).toNat = a + n := by omega
  have hw3 : (a : Int) ≤ a + n := by omega
  cases ok
  · obtain ⟨m, hm⟩ : ∃ m, min s.size (a + 4) = m := ⟨_, rfl⟩
    have hb : badU (s.extract a m).data.toList = n := by
      rw [← hm, ext_bytes, show (s.data.toList.drop a).take (min s.size (a + 4) - a) = (s.data.toList.drop a).take 4 by
        rcases Nat.le_total s.size (a + 4) with k | k
        · rw [Nat.min_eq_left k, List.take_of_length_le (by simp), List.take_of_length_le (by simp; omega)]
        · rw [Nat.min_eq_right k, show a + 4 - a = 4 by omega]]
      exact bad_take4 _ _ _ (by rw [hL]; exact ha) hf
    have kB := fun W => ubad_any (s.extract a m) W (by simp; omega)
    rw [hb] at kB
    have hmi : min (s.size : Int) ((a : Int) + 4) = (m : Int) := by omega
    have hw4 : IntKind.i64.wrap ((a : Int) + 4) = (a : Int) + 4 := IntWalk.i64_in _ (by omega)
    have hm0 : (a : Int) ≤ m := by omega
    have hm1 : (m : Int) ≤ s.size := by omega
    clear hb hf hL hfl hm
    go_enter Tryd.func81, Tryd.ntmps81
    go_wp2_with fail
    go_region_held3 (fun w' => (w'.cell? ⟨g, 0, none⟩ = some (.string s) ∧ w'.cell? ⟨g, 1, none⟩ = some (.int .i64 (a : Int))) ∧ ScH w g s a false w') ((first | assumption | exact hH0.full | exact hH0.drew.full | exact (ScH.drew (And.right ‹_›)).full)) (first
      | (go_at_call 92; refine (kN _).mono ?_; rintro e w1 ⟨⟨r, rfl⟩, hb1⟩; have hH1 := ScH.bel (And.right ‹_›) hb1; have hH1' := hH1.full))
    go_wp2_with fail
    go_region_held3 (fun w' => (w'.cell? ⟨g, 0, none⟩ = some (.string s) ∧ w'.cell? ⟨g, 1, none⟩ = some (.int .i64 (a : Int))) ∧ ScH w g s a false w') ((first | assumption | exact hH1.drew.full | exact (ScH.drew (And.right ‹_›)).full)) (first
      | (go_at_call 93; refine (kB _).mono ?_; rintro e w2 ⟨rfl, hb2⟩; have hH2 := ScH.bel (And.right ‹_›) hb2; have hH2' := hH2.full))
    obtain ⟨hs2, hA2⟩ := hH2
    obtain ⟨⟨c0, c1, c2⟩, f1, f2⟩ := hs2.facts
    clear hH1 hH1' hH2' hH0 hmi hw4
    go_wp2_with fail
    have h3 := (hs2.no1 true).atN (a + n)
    have hA3 : Aw [g] w ((w2.setCell ⟨g, 2, none⟩ (.bool true)).setCell ⟨g, 1, none⟩ (.int .i64 ((a + n : Nat) : Int))) := (hA2.setCell (.inl (by simp)) _).setCell (.inl (by simp)) _
    rw [show (((a + n : Nat) : Int)) = (a : Int) + n by omega] at h3 hA3
    generalize ((w2.setCell ⟨g, 2, none⟩ (.bool true)).setCell ⟨g, 1, none⟩ (.int .i64 ((a : Int) + n))) = w3 at h3 hA3 ⊢
    obtain ⟨⟨d0, d1, d2⟩, _, _⟩ := h3.facts
    rw [show (((a + n : Nat) : Int)) = (a : Int) + n by omega] at d1
    clear c0 c1 c2 f1 f2
    go_quiet (fail)
    go_wp2_with fail
    go_ret
    exact ⟨rfl, h3.drewN _, hA3.drewN _⟩
  · clear hf hL hfl
    go_enter Tryd.func81, Tryd.ntmps81
    go_wp2_with fail
    go_region_held3 (fun w' => (w'.cell? ⟨g, 0, none⟩ = some (.string s) ∧ w'.cell? ⟨g, 1, none⟩ = some (.int .i64 (a : Int))) ∧ ScH w g s a false w') ((first | assumption | exact hH0.full | exact hH0.drew.full | exact (ScH.drew (And.right ‹_›)).full)) (first
      | (go_at_call 92; refine (kN _).mono ?_; rintro e w1 ⟨⟨r, rfl⟩, hb1⟩; have hH1 := ScH.bel (And.right ‹_›) hb1; have hH1' := hH1.full))
    obtain ⟨hs2, hA2⟩ := hH1
    obtain ⟨⟨c0, c1, c2⟩, f1, f2⟩ := hs2.facts
    clear hH1' hH0
    go_wp2_with fail
    have h3 := hs2.atN (a + n)
    have hA3 : Aw [g] w (w1.setCell ⟨g, 1, none⟩ (.int .i64 ((a + n : Nat) : Int))) := hA2.setCell (.inl (by simp)) _
    rw [show (((a + n : Nat) : Int)) = (a : Int) + n by omega] at h3 hA3
    generalize (w1.setCell ⟨g, 1, none⟩ (.int .i64 ((a : Int) + n))) = w3 at h3 hA3 ⊢
    obtain ⟨⟨d0, d1, d2⟩, _, _⟩ := h3.facts
    rw [show (((a + n : Nat) : Int)) = (a : Int) + n by omega] at d1
    clear c0 c1 c2 f1 f2
    go_quiet (fail)
    go_wp2_with fail
    go_ret
    exact ⟨rfl, h3.drewN _, hA3.drewN _⟩
end Go.Proofs.YtdngieihlcknmaaDoor
