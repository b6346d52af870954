/- The walk of package openword: labels in brackets. -/
import Derived.Test.YtdngieihlcknmaaDoorOpenA
import Derived.Test.YtdngieihlcknmaaDoorRowsK
namespace Go.Proofs.YtdngieihlcknmaaDoor
set_option linter.unusedVariables false
set_option linter.unusedSimpArgs false
open Go.RowKit
theorem otagsGo_step (l : List UInt8) (f a : Nat) (no : Bool) (acc : List MTag) : otagsGo l (f + 1) a no acc = if no then (acc, a, true) else if isB l (otagS l a false).2.1 (otagS l a false).2.2 44 then otagsGo l f ((otagS l a false).2.1 + 1) false (acc ++ [(otagS l a false).1]) else (acc ++ [(otagS l a false).1], (otagS l a false).2) := rfl
set_option maxRecDepth 100000 in
set_option maxHeartbeats 6400000 in
theorem otags_any (r g : Nat) (rv : Value) (s : ByteArray) (a : Nat) (no : Bool) (T : List MTag) (a' : Nat) (no' : Bool) (w : World) (h : LR w w r g rv s a no) (ha : a ≤ s.size) (hs : s.size ≤ 1048576) (hR : otagsS s.data.toList a no = (T, a', no')) :
    Calls Tryd.prog 61 #[.pointer (some ⟨r, 0, none⟩)] w fun e w' => ∃ A c, e = .returned (.slice A T.length c) ∧ w'.ownsRow w.heap.size 44 4 (.slice A T.length c) T.length (T.flatMap tagCell) ∧ LR w w' r g rv s a' no' := by
  have hL : s.data.toList.length = s.size := by simp
  have HL := Lib.hid hL
  have hs2 : s.size ≤ 4611686018427387904 := Nat.le_trans hs (by decide)
  have hr := Blk.lt h.rd
  have hg := Blk.lt h.sc
  have x0 := h.facts
  have kT := fun W h => takes_any g s a no 123 W h ha hs2
  unfold takeA at kT
  unfold otagsS at hR
  cases hq : isB s.data.toList a no 123
  case false =>
    simp only [hq, Bool.false_eq_true, if_false] at kT hR
    obtain ⟨rfl, rfl, rfl⟩ : [] = T ∧ a = a' ∧ no = no' := by injection hR with e1 e2; injection e2 with e3 e4; exact ⟨e1, e3, e4⟩
    go_enter Tryd.func61, Tryd.ntmps61
    go_wp2_with (first
      | (go_at_call 46; (with_reducible refine (kT _ h.sc).mono ?_); rintro e w1 ⟨rfl, h1, hA1⟩; have L1 := h.scan hA1 h1 (by simp)))
    go_ret
    exact ⟨_, _, rfl, World.ownsRow_nil _ _ _ _, L1⟩
  case true =>
    obtain ⟨hlt, hno, _⟩ := isB_lt hq
    rw [hL] at hlt
    subst hno
    simp only [hq, if_true] at kT hR
    have kT2 := fun W h => takes_any g s (a + 1) false 125 W h (by omega) hs2
    unfold takeA at kT2
    cases hq2 : isB s.data.toList (a + 1) false 125
    case true =>
      simp only [hq2, if_true] at kT2 hR
      obtain ⟨rfl, rfl, rfl⟩ : [] = T ∧ a + 2 = a' ∧ false = no' := by injection hR with e1 e2; injection e2 with e3 e4; exact ⟨e1, e3, e4⟩
      go_enter Tryd.func61, Tryd.ntmps61
      go_wp2_with (first
        | (go_at_call 46; (with_reducible refine (kT _ h.sc).mono ?_); rintro e w1 ⟨rfl, h1, hA1⟩; have L1 := h.scan hA1 h1 (by simp); have x1 := L1.facts)
        | (go_at_call 46; (with_reducible refine (kT2 _ L1.sc).mono ?_); rintro e w2 ⟨rfl, h2, hA2⟩; have L2 := L1.scan hA2 h2 (by simp)))
      go_ret
      exact ⟨_, _, rfl, World.ownsRow_nil _ _ _ _, L2⟩
    case false =>
      simp only [hq2, Bool.false_eq_true, if_false] at kT2 hR
      obtain ⟨T1, a1, n1, h1⟩ : ∃ T1 a1 n1, otagsGo s.data.toList (s.data.toList.length + 1) (a + 1) false [] = (T1, a1, n1) := ⟨_, _, _, rfl⟩
      obtain ⟨a2, n2, h2⟩ : ∃ a2 n2, wordS s.data.toList [125] a1 n1 = (a2, n2) := ⟨_, _, rfl⟩
      simp only [h1, h2] at hR
      obtain ⟨rfl, rfl, rfl⟩ : T1 = T ∧ a2 = a' ∧ n2 = no' := by injection hR with e1 e2; injection e2 with e3 e4; exact ⟨e1, e3, e4⟩
      have hl1 := otagsGo_le (l := s.data.toList) (s.data.toList.length + 1) (a + 1) false [] (by rw [hL]; omega)
      rw [h1, hL] at hl1
      simp only at hl1
      have kW := fun W h => word_any g s ⟨#[125]⟩ a1 n1 a2 n2 W h hl1.2 hs2 (by decide) h2
      have H1 := Lib.hid h1
      obtain ⟨i0, hi0, hz0, hz1, hz2⟩ := info_parts Tryd.infoTag
      have hut : Tryd.prog.underlying 39 = some (.slice 44) := by kernel_rfl
      clear hR h1 h2 hq hq2 hL
      go_enter Tryd.func61, Tryd.ntmps61
      go_wp2_with (first
        | (go_at_call 46; (with_reducible refine (kT _ h.sc).mono ?_); rintro e w1 ⟨rfl, h1, hA1⟩; have L1 := h.scan hA1 h1 (by simp); have x1 := L1.facts)
        | (go_at_call 46; (with_reducible refine (kT2 _ L1.sc).mono ?_); rintro e w2 ⟨rfl, h2, hA2⟩; have L2 := L1.scan hA2 h2 (by simp)))
      clear kT kT2
      go_loopw [3] (fun v wr => ∃ (p f : Nat) (np : Bool) (acc : List MTag) (tv : Value), v = tv ∧ p ≤ s.size ∧ s.size < f + p ∧ acc.length ≤ p ∧ LR w wr r g rv s p np ∧ wr.ownsRow w.heap.size 44 4 tv acc.length (acc.flatMap tagCell) ∧ Hid (otagsGo s.data.toList f p np acc = (T1, a1, n1))) (fun _ wr => mOf wr g s)
      case atStart => exact ⟨a + 1, _, false, [], _, rfl, by omega, by (have := HL.out; omega), by simp, L2, World.ownsRow_nil _ _ _ _, H1⟩
      case round =>
        clear L2 L1 x1 h2 hA2 h1 hA1 H1
        obtain ⟨p, f, np, acc, tv, rfl, hp, hf, hacc, hX, hown, HT⟩ := hrel
        have hm0 := hX.sc.mOf
        have z0 := hX.facts
        have kS := fun W h => stopped_any g s p np W h
        obtain ⟨f, rfl⟩ : ∃ f', f = f' + 1 := ⟨f - 1, by omega⟩
        have hT := HT.out
        rw [otagsGo_step] at hT
        cases np
        case true =>
          simp only [if_true] at hT
          obtain ⟨rfl, rfl, rfl⟩ : acc = T1 ∧ p = a1 ∧ true = n1 := by injection hT with e1 e2; injection e2 with e3 e4; exact ⟨e1, e3, e4⟩
          clear hT HT
          go_wp2_with (first
            | (go_at_call 20; (with_reducible refine (kS _ hX.sc).mono ?_); rintro e w3 ⟨rfl, rfl⟩)
            | (go_at_call 32; (with_reducible refine (kW _ hX.sc).mono ?_); rintro e w4 ⟨rfl, h4, hA4⟩; have L4 := hX.scan hA4 h4 (by simp); have hown4 := own_aw hown hA4 (fun i hi e => by simp only [List.mem_cons, List.not_mem_nil, or_false] at e; subst e; have := (hown.lt _ hi).1; omega); obtain ⟨A, c, rfl⟩ := own_form hown4; have hrd := rows_reads (f := tagCell) (fun _ => rfl) (by decide) (own_rows2 (f := tagCell) (fun _ => rfl) hown4 rfl))
            | (at_builtin; refine wpList_append_any _ (by rfl) (.const (.slice none 0 0)) (.tmp 39) _ (by rfl) w.heap.size 44 i0 _ 4 48 hut hi0 hz0 hz1 hz2 rfl (by omega) _ 0 [] (by rfl) (World.ownsRow_nil _ _ _ _) w4.heap.size _ acc.length _ _ (by rfl) hrd (by intro u hu; obtain ⟨x, _, hx⟩ := List.mem_flatMap.1 hu; simp only [tagCell, List.mem_cons, List.not_mem_nil, or_false] at hx; rcases hx with rfl | rfl | rfl | rfl <;> rfl) (by simp [maxLen]; omega) (by omega) L4.aw.size ?_; intro v5 w5 hown5 hg5 hat5))
          rw [Nat.zero_add, List.nil_append] at hown5
          obtain ⟨A5, c5, rfl⟩ := own_form hown5
          have L5 := L4.app (World.ownsRow_nil _ _ 44 4) ((Aw.refl _ _).grown hg5 (fun k hk => .inl (by simpa using hk))) hr hg
          go_ret
          exact ⟨_, _, rfl, hown5, L5⟩
        case false =>
          obtain ⟨X, p2, np2, hX2⟩ : ∃ X p2 np2, otagS s.data.toList p false = (X, p2, np2) := ⟨_, _, _, rfl⟩
          rw [hX2] at hT
          have hle := otagS_le (l := s.data.toList) false (show p ≤ s.data.toList.length by rw [HL.out]; omega)
          rw [hX2, HL.out] at hle
          simp only at hle
          have kG := fun W h => otag_any r g rv s p false X p2 np2 W h hp hs hX2
          have kT := fun W h => takes_any g s p2 np2 44 W h hle.2 hs2
          unfold takeA at kT
          simp only [Bool.false_eq_true, if_false] at hT
          cases hq : isB s.data.toList p2 np2 44
          case false =>
            simp only [hq, Bool.false_eq_true, if_false] at kT hT
            obtain ⟨rfl, rfl, rfl⟩ : acc ++ [X] = T1 ∧ p2 = a1 ∧ np2 = n1 := by injection hT with e1 e2; injection e2 with e3 e4; exact ⟨e1, e3, e4⟩
            clear hT HT hX2
            go_wp2_with (first
              | (go_at_call 20; (with_reducible refine (kS _ hX.sc).mono ?_); rintro e w3 ⟨rfl, rfl⟩)
              | (go_at_call 77; (with_reducible refine (kG _ hX.self).mono ?_); rintro e w4 ⟨rfl, h4⟩; have L4 := hX.rebase h4; have hown4 := own_aw hown h4.aw (fun i hi e => by simp only [List.mem_cons, List.not_mem_nil, or_false] at e; subst e; have := (hown.lt _ hi).1; omega))
              | (at_builtin; refine wpList_append_lies _ (by rfl) _ _ _ (by rfl) w.heap.size 44 i0 _ 4 48 hut hi0 hz0 hz1 hz2 rfl (by omega) _ acc.length (acc.flatMap tagCell) (by rfl) (hown4.alloc _) ⟨w4.heap.size, 0, none⟩ 1 1 (tagCell X) (by rfl) (by rfl) (World.news_of_block (heap_alloc_new w4 _)) (by simp [tagCell, Value.oneCell']) (by omega) (by simp [maxLen]; omega) (by omega) (by have := L4.aw.size; simp; omega) (w4.heap.size + 1) (by simp) ?_; intro gg capg w5 hown5 hgrow hat5 hlt5; have L5 := L4.app hown4 (((Aw.refl _ _).alloc _).grown hgrow (fun k hk => .inl (by simpa using hk))) hr hg; have x5 := L5.facts)
              | (go_at_call 46; (with_reducible refine (kT _ L5.sc).mono ?_); rintro e w6 ⟨rfl, h6, hA6⟩; have L6 := L5.scan hA6 h6 (by simp); have x6 := L6.facts; have hown6 := own_aw hown5 hA6 (fun i hi e => by simp only [List.mem_cons, List.not_mem_nil, or_false] at e; subst e; have := (hown5.lt _ hi).1; omega))
              | (go_at_call 32; (with_reducible refine (kW _ L6.sc).mono ?_); rintro e w7 ⟨rfl, h7, hA7⟩; have L7 := L6.scan hA7 h7 (by simp); have hown7 := own_aw hown6 hA7 (fun i hi e => by simp only [List.mem_cons, List.not_mem_nil, or_false] at e; subst e; have := (hown6.lt _ hi).1; omega); rw [show acc.flatMap tagCell ++ tagCell X = (acc ++ [X]).flatMap tagCell by simp] at hown7; have hrd := rows_reads (f := tagCell) (l := acc ++ [X]) (fun _ => rfl) (by decide) (own_rows2 (f := tagCell) (fun _ => rfl) hown7 (by simp)))
              | (at_builtin; go_loud (refine wpList_append_any _ (by rfl) (.const (.slice none 0 0)) (.tmp 39) _ (by rfl) w.heap.size 44 i0 _ 4 48 hut hi0 hz0 hz1 hz2 rfl (by omega) _ 0 [] (by rfl) (World.ownsRow_nil _ _ _ _) w7.heap.size _ (acc.length + 1) _ _ (by rfl) hrd (by intro u hu; obtain ⟨x, _, hx⟩ := List.mem_flatMap.1 hu; simp only [tagCell, List.mem_cons, List.not_mem_nil, or_false] at hx; rcases hx with rfl | rfl | rfl | rfl <;> rfl) (by simp [maxLen]; omega) (by omega) L7.aw.size ?_); intro v5 w5 hown5 hg5 hat5))
            rw [Nat.zero_add, List.nil_append] at hown5
            obtain ⟨A5, c5, rfl⟩ := own_form hown5
            have L8 := L7.app (World.ownsRow_nil _ _ 44 4) ((Aw.refl _ _).grown hg5 (fun k hk => .inl (by simpa using hk))) hr hg
            go_ret
            exact ⟨A5, c5, by simp, by simpa using hown5, L8⟩
          case true =>
            obtain ⟨hlt, hnp, _⟩ := isB_lt hq
            rw [HL.out] at hlt
            subst hnp
            simp only [hq, if_true] at kT hT
            have HT2 := Lib.hid hT
            clear hT HT hX2
            go_wp2_with (first
              | (go_at_call 20; (with_reducible refine (kS _ hX.sc).mono ?_); rintro e w3 ⟨rfl, rfl⟩)
              | (go_at_call 77; (with_reducible refine (kG _ hX.self).mono ?_); rintro e w4 ⟨rfl, h4⟩; have L4 := hX.rebase h4; have hown4 := own_aw hown h4.aw (fun i hi e => by simp only [List.mem_cons, List.not_mem_nil, or_false] at e; subst e; have := (hown.lt _ hi).1; omega))
              | (at_builtin; refine wpList_append_lies _ (by rfl) _ _ _ (by rfl) w.heap.size 44 i0 _ 4 48 hut hi0 hz0 hz1 hz2 rfl (by omega) _ acc.length (acc.flatMap tagCell) (by rfl) (hown4.alloc _) ⟨w4.heap.size, 0, none⟩ 1 1 (tagCell X) (by rfl) (by rfl) (World.news_of_block (heap_alloc_new w4 _)) (by simp [tagCell, Value.oneCell']) (by omega) (by simp [maxLen]; omega) (by omega) (by have := L4.aw.size; simp; omega) (w4.heap.size + 1) (by simp) ?_; intro gg capg w5 hown5 hgrow hat5 hlt5; have L5 := L4.app hown4 (((Aw.refl _ _).alloc _).grown hgrow (fun k hk => .inl (by simpa using hk))) hr hg; have x5 := L5.facts)
              | (go_at_call 46; (with_reducible refine (kT _ L5.sc).mono ?_); rintro e w6 ⟨rfl, h6, hA6⟩; have L6 := L5.scan hA6 h6 (by simp); have hown6 := own_aw hown5 hA6 (fun i hi e => by simp only [List.mem_cons, List.not_mem_nil, or_false] at e; subst e; have := (hown5.lt _ hi).1; omega)))
            refine ⟨⟨p2 + 1, f, false, acc ++ [X], _, rfl, by omega, by omega, by simp; omega, L6, by simpa using hown6, HT2⟩, ?_⟩
            rw [L6.sc.mOf, hm0]
            simp; omega
end Go.Proofs.YtdngieihlcknmaaDoor
