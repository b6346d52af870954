/- The walk of package dotsread: a line. -/
import Derived.Test.YtoplengednoldaaGreatDoorDotA
import Derived.Test.YtoplengednoldaaGreatDoorRowsK
import Derived.Deep.RegionLaw
import Derived.Deep.CutBlock
namespace Go.Proofs.YtoplengednoldaaGreatDoor
set_option linter.unusedVariables false
set_option linter.unusedSimpArgs false
open Go.RowKit
/-- What a line's walk shows: one more row. -/
def OneRow (w : World) (r g : Nat) (rv : Value) (s : ByteArray) (base n : Nat) (xs : List Value) (R : MRow) (a' : Nat) (no' : Bool) (w' : World) : Prop :=
  ∃ rv' x, x.row = R ∧ Rd w' r g rv' ∧ Sc w' g s a' no' ∧ w'.ownsRow base 74 10 rv' (n + 1) (xs ++ rowCell x) ∧ OwnV w' base x ∧ Aw (g :: r :: rv.ownBlock.toList) w w'
theorem dTagsGo_step (l : List UInt8) (f a : Nat) (no : Bool) (acc : List MTag) : dTagsGo l (f + 1) a no acc = if isB l a no 59 then dTagsGo l f (dTagS l (a + 1) false).2.1 (dTagS l (a + 1) false).2.2 (acc ++ [(dTagS l (a + 1) false).1]) else (acc, a, no) := rfl
set_option maxRecDepth 100000 in
set_option maxHeartbeats 12800000 in
theorem dline_any (r g : Nat) (rv : Value) (s : ByteArray) (a : Nat) (R : MRow) (a' : Nat) (no' : Bool) (base n : Nat) (xs : List Value) (w : World) (h : LR w w r g rv s a false) (hown : w.ownsRow base 74 10 rv n xs) (hb : base ≤ w.heap.size) (hn : n ≤ 1048577) (ha : a < s.size) (hs : s.size ≤ 1048576) (hR : dotLineS s.data.toList a = (R, a', no')) :
    Calls Tryz.prog 38 #[.pointer (some ⟨r, 0, none⟩)] w fun e w' => e = .returned (.tuple #[]) ∧ OneRow w r g rv s base n xs R a' no' w' := by
  have hL : s.data.toList.length = s.size := by simp
  have hs2 : s.size ≤ 4611686018427387904 := Nat.le_trans hs (by decide)
  have hr := Blk.lt h.rd
  have hg := Blk.lt h.sc
  obtain ⟨a1, n1, h1⟩ : ∃ a1 n1, dPathS s.data.toList a = (a1, n1) := ⟨_, _, rfl⟩
  obtain ⟨T, a2, n2, h2⟩ : ∃ T a2 n2, dTagsGo s.data.toList (s.data.toList.length + 1) a1 n1 [] = (T, a2, n2) := ⟨_, _, _, rfl⟩
  obtain ⟨a3, n3, h3⟩ : ∃ a3 n3, wordS s.data.toList [32] a2 n2 = (a3, n3) := ⟨_, _, rfl⟩
  obtain ⟨a4, n4, h4⟩ : ∃ a4 n4, decS s.data.toList a3 n3 = (a4, n4) := ⟨_, _, rfl⟩
  obtain ⟨a5, n5, h5⟩ : ∃ a5 n5, wordS s.data.toList [32] a4 n4 = (a5, n5) := ⟨_, _, rfl⟩
  obtain ⟨a6, n6, h6⟩ : ∃ a6 n6, numS s.data.toList a5 n5 = (a6, n6) := ⟨_, _, rfl⟩
  have hl1 := dPathS_le (l := s.data.toList) (a := a) (by rw [hL]; omega)
  rw [h1, hL] at hl1
  have hl2 := dTagsGo_le (l := s.data.toList) (s.data.toList.length + 1) a1 n1 [] (by rw [hL]; exact hl1.2)
  rw [h2, hL] at hl2
  have hl3 := wordS_le s.data.toList [32] a2 n2 (by rw [hL]; exact hl2.2)
  rw [h3, hL] at hl3
  have hl4 := decS_le s.data.toList a3 n3 (by rw [hL]; exact hl3.2)
  rw [h4, hL] at hl4
  have hl5 := wordS_le s.data.toList [32] a4 n4 (by rw [hL]; exact hl4.2)
  rw [h5, hL] at hl5
  have hl6 := numS_le s.data.toList a5 n5 (by rw [hL]; exact hl5.2)
  rw [h6, hL] at hl6
  simp only at hl1 hl2 hl3 hl4 hl5 hl6
  unfold dotLineS at hR
  simp only [h1, h2, h3, h4, h5, h6] at hR
  obtain ⟨hRow, hF⟩ : _ ∧ wordS s.data.toList [10] a6 n6 = (a', no') := by injection hR with e1 e2; exact ⟨e1, e2⟩
  have kA := fun W a no h => at_any g s a no W h
  have kP := fun W h => dpath_any r g rv s a a1 n1 W h (by omega) hs h1
  have kW := fun W h => word_any g s ⟨#[32]⟩ a2 n2 a3 n3 W h hl2.2 hs2 (by decide) h3
  have kD := fun W h => dec_any g s a3 n3 a4 n4 W h hl3.2 hs2 h4
  have kV := fun W h => word_any g s ⟨#[32]⟩ a4 n4 a5 n5 W h hl4.2 hs2 (by decide) h5
  have kN := fun W h => whole_any g s a5 n5 a6 n6 W h hl5.2 hs2 h6
  have kF := fun W h => word_any g s ⟨#[10]⟩ a6 n6 a' no' W h hl6.2 hs2 (by decide) hF
  rw [ext_cut] at kP kD kN
  generalize mkS (cutL s.data.toList a a1) = V1 at kP hRow
  generalize mkS (cutL s.data.toList a3 a4) = V5 at kD hRow
  generalize mkS (cutL s.data.toList a5 a6) = VT at kN hRow
  have HRow := Lib.hid hRow
  have HL := Lib.hid hL
  have H2 := Lib.hid h2
  obtain ⟨i0, hi0, hz0, hz1, hz2⟩ := info_parts Tryz.infoTag
  obtain ⟨i2, hi2, jz0, jz1, jz2⟩ := info_parts Tryz.infoRow
  have hut : Tryz.prog.underlying 71 = some (.slice 86) := by kernel_rfl
  have hur : Tryz.prog.underlying 23 = some (.slice 74) := by kernel_rfl
  have L1 : LX w (w.alloc (.cells #[.int .i64 0, .string ⟨#[]⟩, .int .i64 (a : Int), .slice none 0 0, .slice none 0 0, .string ⟨#[]⟩, .int .i64 0, .bool false, .string ⟨#[]⟩, .int .i64 0] 74)) r g w.heap.size rv s a false 0 ⟨#[]⟩ a (.slice none 0 0) [] ⟨#[]⟩ 0 false ⟨#[]⟩ 0 :=
    ⟨h.alloc _, by
      have := Blk.new w 74 #[.int .i64 0, .string ⟨#[]⟩, .int .i64 (a : Int), .slice none 0 0, .slice none 0 0, .string ⟨#[]⟩, .int .i64 0, .bool false, .string ⟨#[]⟩, .int .i64 0]
      simpa [Rw] using this, World.ownsRow_nil _ _ _ _, hr, hg, Nat.le_refl _⟩
  have x0 := h.facts
  have x1 := L1.facts
  clear h1 h2 h3 h4 h5 h6 hL hR hRow hF
  go_enter Tryz.func38, Tryz.ntmps38
  go_wp2_with (first
    | (go_at_call 23; (with_reducible refine (kA _ a false h.sc).mono ?_); rintro e w1 ⟨rfl, rfl⟩)
    | (go_at_call 74; (with_reducible refine (kP _ L1.lr.self).mono ?_); rintro e w2 ⟨rfl, h2⟩; have L2 := L1.call h2; obtain ⟨_, _, f2, _⟩ := L2.rw_.facts; have L3 := L2.name V1))
  revert L3
  generalize World.setCell _ _ _ = W3
  intro L3
  clear L1 L2 kP h2 f2 x0 x1
  go_loopw [16] (fun _ wr => ∃ (p f : Nat) (np : Bool) (acc : List MTag) (tv : Value), p ≤ s.size ∧ s.size < f + p ∧ acc.length ≤ p ∧ LX w wr r g w.heap.size rv s p np 0 V1 a tv acc ⟨#[]⟩ 0 false ⟨#[]⟩ 0 ∧ Hid (dTagsGo s.data.toList f p np acc = (T, a2, n2))) (fun _ wr => s.size - atOf wr g)
  case atStart => exact ⟨a1, _, n1, [], _, hl1.2, by (have := HL.out; omega), by simp, L3, H2⟩
  case round =>
    clear L3 H2
    obtain ⟨p, f, np, acc, tv, hp, hf, hacc, hX, HT⟩ := hrel
    have z0 := hX.facts
    have hat := hX.lr.sc.atOf
    have kT := fun W h => takes_any g s p np 59 W h hp hs2
    unfold takeA at kT
    obtain ⟨f, rfl⟩ : ∃ f', f = f' + 1 := ⟨f - 1, by omega⟩
    have hT := HT.out
    rw [dTagsGo_step] at hT
    cases hq : isB s.data.toList p np 59
    case true =>
      obtain ⟨hlt, hnp, _⟩ := isB_lt hq
      rw [HL.out] at hlt
      subst hnp
      simp only [hq, if_true] at kT hT
      obtain ⟨X2, p2, np2, hX2⟩ : ∃ X' p' np', dTagS s.data.toList (p + 1) false = (X', p', np') := ⟨_, _, _, rfl⟩
      have hlx := dTagS_le (l := s.data.toList) (a := p + 1) false (by rw [HL.out]; omega)
      rw [hX2, HL.out] at hlx
      rw [hX2] at hT
      simp only at hlx hT
      have HT2 := Lib.hid hT
      have kG := fun W h => dtag_any r g rv s (p + 1) false X2 p2 np2 W h (by omega) hs hX2
      clear hT HT hq hX2 kA kW kD kV kN kF
      go_upto_region 3 with (go_at_call 75; (with_reducible refine (kT _ hX.lr.sc).mono ?_); rintro e w5 ⟨rfl, h5, hA5⟩; have L6 := hX.scan hA5 h5 (by simp))
      have y0 := L6.facts
      obtain ⟨⟨_, _, _, y2, _⟩, _⟩ := L6.rw_.facts
      go_region_law (first
        | (go_simp; go_at_call 76; refine (kG _ L6.drew.lr.self).mono ?_; rintro e w7 ⟨rfl, k7⟩; have L7 := L6.drew.call k7; have v1 := L7.facts; obtain ⟨⟨_, _, _, v2, _⟩, _, _, _, v3, _⟩ := L7.rw_.facts; obtain ⟨⟨_, _, _, v4, _⟩, _⟩ := Rw.facts (Blk.alloc L7.rw_ (.cells #[.string X2.name, .string X2.value, .int .i64 (X2.off : Int), .int .i64 (X2.pos : Int)] 86)))
        | (refine step_append_lies _ (by rfl) _ _ _ (by rfl) w.heap.size 86 i0 _ 4 48 hut hi0 hz0 hz1 hz2 rfl (by omega) tv acc.length (acc.flatMap tagCell) (by rfl) (L7.tg.alloc _) ⟨w7.heap.size, 0, none⟩ 1 1 (tagCell X2) (by rfl) (by rfl) (World.news_of_block (heap_alloc_new w7 _)) (by simp [tagCell, Value.oneCell']) (by omega) (by simp [maxLen]; omega) (by omega) (by have := L7.lr.aw.size; simp; omega) (w7.heap.size + 1) (by simp) ?_; intro gg capg w8 hown8 hgrow hat8 hlt8; obtain ⟨_, _, _, _, r4, _⟩ := Rw.facts (Blk.grown (w := _) (Blk.alloc L7.rw_ _) hgrow (fun e => own_blk_ne L7.tg L7.rw_ (by decide) e.symm)); have L8 := L7.tags_ (((Aw.refl _ _).alloc _).grown hgrow (fun k hk => .inl (by simp [hk]))) hown8))
      all_goals
        go_wp2_with fail
        exact ⟨⟨p2, f, np2, acc ++ [X2], _, hlx.2, by omega, by simp; omega, L8, HT2⟩, by rw [L8.lr.sc.atOf, hat]; omega⟩
    case false =>
      simp only [hq, Bool.false_eq_true, if_false] at kT hT
      obtain ⟨rfl, rfl, rfl⟩ : acc = T ∧ p = a2 ∧ np = n2 := by injection hT with e1 e2; injection e2 with e3 e4; exact ⟨e1, e3, e4⟩
      obtain ⟨tA, tc, rfl⟩ := own_form hX.tg
      clear hT HT hq
      go_upto_region 8 with (first
        | (go_at_call 75; (with_reducible refine (kT _ hX.lr.sc).mono ?_); rintro e w5 ⟨rfl, h5, hA5⟩; have L6 := hX.scan hA5 h5 (by simp); have y6 := L6.facts)
        | (go_at_call 77; (with_reducible refine (kW _ L6.lr.sc).mono ?_); rintro e w6 ⟨rfl, h6, hA6⟩; have L7 := L6.scan hA6 h6 (by simp); have y7 := L7.facts; obtain ⟨_, _, _, _, _, _, _, f7, _⟩ := L7.rw_.facts; have L8 := L7.pos_ a3; have y8 := L8.facts)
        | (go_at_call 23; (with_reducible refine (kA _ a3 n3 L7.lr.sc).mono ?_); rintro e w7 ⟨rfl, rfl⟩)
        | (go_at_call 78; (with_reducible refine (kD _ L8.lr.sc).mono ?_); rintro e w8 ⟨rfl, h8, hA8⟩; have L9 := L8.scan hA8 h8 (by simp); have y9 := L9.facts; obtain ⟨_, _, _, _, _, _, f9, _⟩ := L9.rw_.facts; have L10 := L9.text_ V5; have y10 := L10.facts)
        | (go_at_call 77; (with_reducible refine (kV _ L10.lr.sc).mono ?_); rintro e w10 ⟨rfl, h10, hA10⟩; have L11 := L10.scan hA10 h10 (by simp); have y11 := L11.facts; obtain ⟨_, _, _, _, _, _, _, _, f11, _⟩ := L11.rw_.facts))
      obtain ⟨_, u0, u1, u2, u3, u4, u5, u6, u7, u8, u9⟩ := L11.rw_.facts
      have L12 := (L11.timed_ true).when_ a5
      have y12 := L12.facts
      clear L6 L7 L8 L9 L10 h5 hA5 h6 hA6 h8 hA8 h10 hA10 f7 f9 f11 kT kW kD kV z0 y6 y7 y8 y9 y10 hX
      go_upto_region 11 with (first
        | (go_at_call 23; (with_reducible refine (kA _ a5 n5 L11.lr.sc).mono ?_); rintro e w12 ⟨rfl, rfl⟩)
        | (go_at_call 79; (with_reducible refine (kN _ L12.lr.sc).mono ?_); rintro e w13 ⟨rfl, h13, hA13⟩; have L13 := L12.scan hA13 h13 (by simp); have y13 := L13.facts; obtain ⟨_, _, _, _, _, _, _, _, _, f13, _⟩ := L13.rw_.facts; have L14 := L13.time_ VT; have y14 := L14.facts)
        | (go_at_call 77; (with_reducible refine (kF _ L14.lr.sc).mono ?_); rintro e w15 ⟨rfl, h15, hA15⟩; have L15 := L14.scan hA15 h15 (by simp)))
      clear L11 L12 L13 L14 y11 y12 y13 y14 h13 hA13 h15 hA15 u0 u1 u2 u3 u4 u5 u6 u7 u8 u9 f13 kA kN kF
      have x15 := L15.facts
      obtain ⟨X, hX⟩ : ∃ X : VRow, X = rowOf 0 V1 a tA acc tc V5 a3 true VT a5 := ⟨_, rfl⟩
      have hown5 : w15.drew.ownsRow base 74 10 rv n xs := own_aw hown L15.lr.aw.drew (fun k hk e => by
        rw [List.mem_singleton] at e
        subst e; exact own_blk_ne hown h.sc (by decide) hk)
      obtain ⟨_, y2, y3⟩ := L15.lr.rd.facts
      obtain ⟨⟨q0, q1, q2, q3, q4, q5, q6, q7, q8, q9⟩, _⟩ := L15.rw_.facts
      obtain ⟨m0, m1, m2⟩ := Rd.facts (Blk.alloc L15.lr.rd (.cells #[.int .i64 0, .string V1, .int .i64 (a : Int), .slice tA acc.length tc, .slice none 0 0, .string V5, .int .i64 (a3 : Int), .bool true, .string VT, .int .i64 (a5 : Int)] 74))
      go_region_law (refine step_append_lies _ (by rfl) _ _ _ (by rfl) base 74 i2 _ 10 136 hur hi2 jz0 jz1 jz2 rfl (by omega) rv n xs (by rfl) (hown5.alloc _) ⟨w15.heap.size, 0, none⟩ 1 1 (rowCell X) (by rfl) (by rfl) (by rw [hX]; exact World.news_of_block (heap_alloc_new w15.drew _)) (by rw [hX]; simp [rowCell, rowOf, Value.oneCell']) (by omega) (by simp [maxLen]; omega) (by omega) (by have := L15.lr.aw.size; simp; omega) (w15.heap.size + 1) (by simp) ?_; intro gg capg w18 hown18 hgrow hat18 hlt18; rw [hX] at hown18; have hfin := line_end (rv' := .slice (some ⟨gg, 0, none⟩) (n + 1) capg) L15.drew hown5 hb (((Aw.refl _ _).alloc _).grown hgrow (fun k hk => .inl (by simpa using hk))) hown18; obtain ⟨g0, g1, g2⟩ := Rd.facts (Blk.grown (w := _) (Blk.alloc L15.drew.lr.rd _) hgrow (fun e => own_blk_ne hown5 L15.drew.lr.rd (by decide) e.symm)))
      all_goals
        go_wp2_with fail
        go_end0
        exact ⟨rfl, _, _, HRow.out, hfin⟩
end Go.Proofs.YtoplengednoldaaGreatDoor
