/- The walks of package openword: a sample, what is told of a family. -/
import Derived.Test.YtdngieihlcknmaaDoorOpenB
import Derived.Deep.RegionLaw
namespace Go.Proofs.YtdngieihlcknmaaDoor
set_option linter.unusedVariables false
set_option linter.unusedSimpArgs false
open Go.RowKit
/-- What a line's walk shows: one more row. -/
def OneRow (w : World) (r g : Nat) (rv : Value) (s : ByteArray) (base n : Nat) (xs : List Value) (R : MRow) (a' : Nat) (no' : Bool) (w' : World) : Prop :=
  ∃ rv' x, x.row = R ∧ Rd w' r g rv' ∧ Sc w' g s a' no' ∧ w'.ownsRow base 42 10 rv' (n + 1) (xs ++ rowCell x) ∧ OwnV w' base x ∧ Aw (g :: r :: rv.ownBlock.toList) w w'
set_option maxRecDepth 100000 in
set_option maxHeartbeats 6400000 in
theorem samp_any (r g : Nat) (rv : Value) (s : ByteArray) (a : Nat) (no : Bool) (R : MRow) (a' : Nat) (no' : Bool) (base n : Nat) (xs : List Value) (w : World) (h : LR w w r g rv s a no) (hown : w.ownsRow base 42 10 rv n xs) (hb : base ≤ w.heap.size) (hn : n ≤ 1048577) (ha : a ≤ s.size) (hs : s.size ≤ 1048576) (hR : sampS s.data.toList a no = (R, a', no')) :
    Calls Tryd.prog 44 #[.pointer (some ⟨r, 0, none⟩)] w fun e w' => e = .returned (.tuple #[]) ∧ OneRow w r g rv s base n xs R a' no' w' := by
  have hL : s.data.toList.length = s.size := by simp
  have hs2 : s.size ≤ 4611686018427387904 := Nat.le_trans hs (by decide)
  have hr := Blk.lt h.rd
  have hg := Blk.lt h.sc
  obtain ⟨a1, n1, h1⟩ : ∃ a1 n1, nmS s.data.toList owName a no = (a1, n1) := ⟨_, _, rfl⟩
  obtain ⟨T, a2, n2, h2⟩ : ∃ T a2 n2, otagsS s.data.toList a1 n1 = (T, a2, n2) := ⟨_, _, _, rfl⟩
  obtain ⟨a3, n3, h3⟩ : ∃ a3 n3, wordS s.data.toList [32] a2 n2 = (a3, n3) := ⟨_, _, rfl⟩
  obtain ⟨a4, n4, h4⟩ : ∃ a4 n4, decS s.data.toList a3 n3 = (a4, n4) := ⟨_, _, rfl⟩
  have hl1 := nmS_le (l := s.data.toList) owName no (by rw [hL]; exact ha)
  rw [h1, hL] at hl1
  have hl2 := otagsS_le (l := s.data.toList) n1 (by rw [hL]; exact hl1.2)
  rw [h2, hL] at hl2
  have hl3 := wordS_le s.data.toList [32] a2 n2 (by rw [hL]; exact hl2.2)
  rw [h3, hL] at hl3
  have hl4 := decS_le s.data.toList a3 n3 (by rw [hL]; exact hl3.2)
  rw [h4, hL] at hl4
  simp only at hl1 hl2 hl3 hl4
  unfold sampS at hR
  simp only [h1, h2, h3, h4] at hR
  have kA := fun W a no h => at_any g s a no W h
  have kN := fun W h => name_oname r g rv s a no a1 n1 W h ha hs h1
  have kG := fun W h => otags_any r g rv s a1 n1 T a2 n2 W h hl1.2 hs h2
  have kW := fun W h => word_any g s ⟨#[32]⟩ a2 n2 a3 n3 W h hl2.2 hs2 (by decide) h3
  have kD := fun W h => dec_any g s a3 n3 a4 n4 W h hl3.2 hs2 h4
  rw [ext_cut] at kD
  have kT := fun W h => takes_any g s a4 n4 32 W h hl4.2 hs2
  unfold takeA at kT
  generalize mkS (cutL s.data.toList a a1) = V1 at kN hR
  generalize mkS (cutL s.data.toList a3 a4) = V5 at kD hR
  obtain ⟨i2, hi2, jz0, jz1, jz2⟩ := info_parts Tryd.infoRow
  have hur : Tryd.prog.underlying 23 = some (.slice 42) := by kernel_rfl
  have L1 : LX w (w.alloc (.cells #[.int .i64 0, .string ⟨#[]⟩, .int .i64 (a : Int), .slice none 0 0, .slice none 0 0, .string ⟨#[]⟩, .int .i64 0, .bool false, .string ⟨#[]⟩, .int .i64 0] 42)) r g w.heap.size rv s a no 0 ⟨#[]⟩ a (.slice none 0 0) [] ⟨#[]⟩ 0 false ⟨#[]⟩ 0 :=
    ⟨h.alloc _, by
      have := Blk.new w 42 #[.int .i64 0, .string ⟨#[]⟩, .int .i64 (a : Int), .slice none 0 0, .slice none 0 0, .string ⟨#[]⟩, .int .i64 0, .bool false, .string ⟨#[]⟩, .int .i64 0]
      simpa [Rw] using this, World.ownsRow_nil _ _ _ _, hr, hg, Nat.le_refl _⟩
  have x0 := h.facts
  have x1 := L1.facts
  clear h1 h2 h3 h4 hL
  cases hq : isB s.data.toList a4 n4 32
  case false =>
    simp only [hq, Bool.false_eq_true, if_false] at kT hR
    obtain ⟨a5, n5, h5⟩ : ∃ a5 n5, wordS s.data.toList [10] a4 n4 = (a5, n5) := ⟨_, _, rfl⟩
    simp only [h5] at hR
    obtain ⟨rfl, rfl, rfl⟩ : (⟨0, V1, a, T, [], V5, a3, false, mkS [], 0⟩ : MRow) = R ∧ a5 = a' ∧ n5 = no' := by
      injection hR with e1 e2; injection e2 with e3 e4; exact ⟨e1, e3, e4⟩
    have kF := fun W h => word_any g s ⟨#[10]⟩ a4 n4 a5 n5 W h hl4.2 hs2 (by decide) h5
    clear hR h5 hq
    go_enter Tryd.func44, Tryd.ntmps44
    go_upto_region 10 with (first
      | (go_at_call 25; (with_reducible refine (kA _ a no h.sc).mono ?_); rintro e w1 ⟨rfl, rfl⟩)
      | (go_at_call 59; (with_reducible refine (kN _ L1.lr.self).mono ?_); rintro e w2 ⟨rfl, h2⟩; have L2 := L1.call h2; have x2 := L2.facts; obtain ⟨_, _, f2, _⟩ := L2.rw_.facts; have L3 := L2.name V1; have x3 := L3.facts)
      | (go_at_call 61; (with_reducible refine (kG _ L3.lr.self).mono ?_); rintro e w4 ⟨tA, tc, rfl, o4, h4⟩; have L4 := L3.call h4; have x4 := L4.facts; obtain ⟨_, _, _, _, f4, _⟩ := L4.rw_.facts; have L5 := L4.tagsAll (own_more o4 L3.lr.aw.size); have x5 := L5.facts)
      | (go_at_call 32; (with_reducible refine (kW _ L5.lr.sc).mono ?_); rintro e w6 ⟨rfl, h6, hA6⟩; have L6 := L5.scan hA6 h6 (by simp); have x6 := L6.facts; obtain ⟨_, _, _, _, _, _, _, f6, _⟩ := L6.rw_.facts; have L7 := L6.pos_ a3; have x7 := L7.facts)
      | (go_at_call 25; (with_reducible refine (kA _ a3 n3 L6.lr.sc).mono ?_); rintro e w7 ⟨rfl, rfl⟩)
      | (go_at_call 62; (with_reducible refine (kD _ L7.lr.sc).mono ?_); rintro e w8 ⟨rfl, h8, hA8⟩; have L8 := L7.scan hA8 h8 (by simp); have x8 := L8.facts; obtain ⟨_, _, _, _, _, _, f8, _⟩ := L8.rw_.facts; have L9 := L8.text_ V5; have x9 := L9.facts)
      | (go_at_call 46; (with_reducible refine (kT _ L9.lr.sc).mono ?_); rintro e w10 ⟨rfl, h10, hA10⟩; have L10 := L9.scan hA10 h10 (by simp); have x10 := L10.facts)
      | (go_at_call 32; (with_reducible refine (kF _ L10.lr.sc).mono ?_); rintro e w15 ⟨rfl, h15, hA15⟩; have L15 := L10.scan hA15 h15 (by simp); have x15 := L15.facts))
    obtain ⟨X, hX⟩ : ∃ X : VRow, X = rowOf 0 V1 a tA T tc V5 a3 false ⟨#[]⟩ 0 := ⟨_, rfl⟩
    have hown5 : w15.drew.ownsRow base 42 10 rv n xs := own_aw hown L15.lr.aw.drew (fun k hk e => by
      rw [List.mem_singleton] at e
      subst e; exact own_blk_ne hown h.sc (by decide) hk)
    obtain ⟨_, y2, y3⟩ := L15.lr.rd.facts
    obtain ⟨⟨q0, q1, q2, q3, q4, q5, q6, q7, q8, q9⟩, _⟩ := L15.rw_.facts
    obtain ⟨m0, m1, m2⟩ := Rd.facts (Blk.alloc L15.lr.rd (.cells #[.int .i64 0, .string V1, .int .i64 (a : Int), .slice tA T.length tc, .slice none 0 0, .string V5, .int .i64 (a3 : Int), .bool false, .string ⟨#[]⟩, .int .i64 0] 42))
    go_region_law (refine step_append_lies _ (by rfl) _ _ _ (by rfl) base 42 i2 _ 10 136 hur hi2 jz0 jz1 jz2 rfl (by omega) rv n xs (by rfl) (hown5.alloc _) ⟨w15.heap.size, 0, none⟩ 1 1 (rowCell X) (by rfl) (by rfl) (by rw [hX]; exact World.news_of_block (heap_alloc_new w15.drew _)) (by rw [hX]; simp [rowCell, rowOf, Value.oneCell']) (by omega) (by simp [maxLen]; omega) (by omega) (by have := L15.lr.aw.size; simp; omega) (w15.heap.size + 1) (by simp) ?_; intro gg capg w18 hown18 hgrow hat18 hlt18; rw [hX] at hown18; have hfin := line_end (rv' := .slice (some ⟨gg, 0, none⟩) (n + 1) capg) L15.drew hown5 hb (((Aw.refl _ _).alloc _).grown hgrow (fun k hk => .inl (by simpa using hk))) hown18; obtain ⟨g0, g1, g2⟩ := Rd.facts (Blk.grown (w := _) (Blk.alloc L15.drew.lr.rd _) hgrow (fun e => own_blk_ne hown5 L15.drew.lr.rd (by decide) e.symm)))
    all_goals
      go_wp2_with fail
      go_end0
      exact ⟨rfl, _, _, rfl, hfin⟩
  case true =>
    simp only [hq, if_true] at kT hR
    obtain ⟨hlt, hn4, _⟩ := isB_lt hq
    have hlt' : a4 < s.size := by simpa using hlt
    subst hn4
    obtain ⟨a6, n6, h6⟩ : ∃ a6 n6, decS s.data.toList (a4 + 1) false = (a6, n6) := ⟨_, _, rfl⟩
    obtain ⟨a5, n5, h5⟩ : ∃ a5 n5, wordS s.data.toList [10] a6 n6 = (a5, n5) := ⟨_, _, rfl⟩
    have hl6 := decS_le s.data.toList (a4 + 1) false (by omega)
    rw [h6] at hl6
    have hl6' : a6 ≤ s.size := by simpa using hl6.2
    simp only [h6, h5] at hR
    have kD2 := fun W h => dec_any g s (a4 + 1) false a6 n6 W h (by omega) hs2 h6
    rw [ext_cut] at kD2
    generalize mkS (cutL s.data.toList (a4 + 1) a6) = V8 at kD2 hR
    obtain ⟨rfl, rfl, rfl⟩ : (⟨0, V1, a, T, [], V5, a3, true, V8, a4 + 1⟩ : MRow) = R ∧ a5 = a' ∧ n5 = no' := by
      injection hR with e1 e2; injection e2 with e3 e4; exact ⟨e1, e3, e4⟩
    have kF := fun W h => word_any g s ⟨#[10]⟩ a6 n6 a5 n5 W h hl6' hs2 (by decide) h5
    clear hR h5 hq h6 hlt hl6
    generalize hp : a4 + 1 = p at kT kD2 ⊢
    clear hp
    go_enter Tryd.func44, Tryd.ntmps44
    go_upto_region 10 with (first
      | (go_at_call 25; (with_reducible refine (kA _ a no h.sc).mono ?_); rintro e w1 ⟨rfl, rfl⟩)
      | (go_at_call 59; (with_reducible refine (kN _ L1.lr.self).mono ?_); rintro e w2 ⟨rfl, h2⟩; have L2 := L1.call h2; have x2 := L2.facts; obtain ⟨_, _, f2, _⟩ := L2.rw_.facts; have L3 := L2.name V1; have x3 := L3.facts)
      | (go_at_call 61; (with_reducible refine (kG _ L3.lr.self).mono ?_); rintro e w4 ⟨tA, tc, rfl, o4, h4⟩; have L4 := L3.call h4; have x4 := L4.facts; obtain ⟨_, _, _, _, f4, _⟩ := L4.rw_.facts; have L5 := L4.tagsAll (own_more o4 L3.lr.aw.size); have x5 := L5.facts)
      | (go_at_call 32; (with_reducible refine (kW _ L5.lr.sc).mono ?_); rintro e w6 ⟨rfl, h6, hA6⟩; have L6 := L5.scan hA6 h6 (by simp); have x6 := L6.facts; obtain ⟨_, _, _, _, _, _, _, f6, _⟩ := L6.rw_.facts; have L7 := L6.pos_ a3; have x7 := L7.facts)
      | (go_at_call 25; (with_reducible refine (kA _ a3 n3 L6.lr.sc).mono ?_); rintro e w7 ⟨rfl, rfl⟩)
      | (go_at_call 62; (with_reducible refine (kD _ L7.lr.sc).mono ?_); rintro e w8 ⟨rfl, h8, hA8⟩; have L8 := L7.scan hA8 h8 (by simp); have x8 := L8.facts; obtain ⟨_, _, _, _, _, _, f8, _⟩ := L8.rw_.facts; have L9 := L8.text_ V5; have x9 := L9.facts)
      | (go_at_call 46; (with_reducible refine (kT _ L9.lr.sc).mono ?_); rintro e w10 ⟨rfl, h10, hA10⟩; have L10 := L9.scan hA10 h10 (by simp); have x10 := L10.facts; obtain ⟨_, _, _, _, _, _, _, _, f10, _⟩ := L10.rw_.facts; have L11 := L10.timed_ true; obtain ⟨_, _, _, _, _, _, _, _, _, _, f11⟩ := L11.rw_.facts; have L12 := L11.when_ p; have x12 := L12.facts)
      | (go_at_call 25; (with_reducible refine (kA _ p false L10.lr.sc).mono ?_); rintro e w11 ⟨rfl, rfl⟩)
      | (go_at_call 62; (with_reducible refine (kD2 _ L12.lr.sc).mono ?_); rintro e w13 ⟨rfl, h13, hA13⟩; have L13 := L12.scan hA13 h13 (by simp); have x13 := L13.facts; obtain ⟨_, _, _, _, _, _, _, _, _, f13, _⟩ := L13.rw_.facts; have L14 := L13.time_ V8; have x14 := L14.facts)
      | (go_at_call 32; (with_reducible refine (kF _ L14.lr.sc).mono ?_); rintro e w15 ⟨rfl, h15, hA15⟩; have L15 := L14.scan hA15 h15 (by simp); have x15 := L15.facts))
    obtain ⟨X, hX⟩ : ∃ X : VRow, X = rowOf 0 V1 a tA T tc V5 a3 true V8 p := ⟨_, rfl⟩
    have hown5 : w15.drew.ownsRow base 42 10 rv n xs := own_aw hown L15.lr.aw.drew (fun k hk e => by
      rw [List.mem_singleton] at e
      subst e; exact own_blk_ne hown h.sc (by decide) hk)
    obtain ⟨_, y2, y3⟩ := L15.lr.rd.facts
    obtain ⟨⟨q0, q1, q2, q3, q4, q5, q6, q7, q8, q9⟩, _⟩ := L15.rw_.facts
    obtain ⟨m0, m1, m2⟩ := Rd.facts (Blk.alloc L15.lr.rd (.cells #[.int .i64 0, .string V1, .int .i64 (a : Int), .slice tA T.length tc, .slice none 0 0, .string V5, .int .i64 (a3 : Int), .bool true, .string V8, .int .i64 (p : Int)] 42))
    go_region_law (refine step_append_lies _ (by rfl) _ _ _ (by rfl) base 42 i2 _ 10 136 hur hi2 jz0 jz1 jz2 rfl (by omega) rv n xs (by rfl) (hown5.alloc _) ⟨w15.heap.size, 0, none⟩ 1 1 (rowCell X) (by rfl) (by rfl) (by rw [hX]; exact World.news_of_block (heap_alloc_new w15.drew _)) (by rw [hX]; simp [rowCell, rowOf, Value.oneCell']) (by omega) (by simp [maxLen]; omega) (by omega) (by have := L15.lr.aw.size; simp; omega) (w15.heap.size + 1) (by simp) ?_; intro gg capg w18 hown18 hgrow hat18 hlt18; rw [hX] at hown18; have hfin := line_end (rv' := .slice (some ⟨gg, 0, none⟩) (n + 1) capg) L15.drew hown5 hb (((Aw.refl _ _).alloc _).grown hgrow (fun k hk => .inl (by simpa using hk))) hown18; obtain ⟨g0, g1, g2⟩ := Rd.facts (Blk.grown (w := _) (Blk.alloc L15.drew.lr.rd _) hgrow (fun e => own_blk_ne hown5 L15.drew.lr.rd (by decide) e.symm)))
    all_goals
      go_wp2_with fail
      go_end0
      exact ⟨rfl, _, _, rfl, hfin⟩
end Go.Proofs.YtdngieihlcknmaaDoor
