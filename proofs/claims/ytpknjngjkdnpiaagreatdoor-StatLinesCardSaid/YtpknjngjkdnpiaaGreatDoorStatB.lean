/- The walk of package statread: a line. -/
import Derived.Test.YtpknjngjkdnpiaaGreatDoorStatA
import Derived.Test.YtpknjngjkdnpiaaGreatDoorRowsK
import Derived.Deep.RegionLaw
import Derived.Deep.CutBlock
namespace Go.Proofs.YtpknjngjkdnpiaaGreatDoor
set_option linter.unusedVariables false
set_option linter.unusedSimpArgs false
open Go.RowKit
/-- What a line's walk shows: one more row. -/
def OneRow (w : World) (r g : Nat) (rv : Value) (s : ByteArray) (base n : Nat) (xs : List Value) (R : MRow) (a' : Nat) (no' : Bool) (w' : World) : Prop :=
  ∃ rv' x, x.row = R ∧ Rd w' r g rv' ∧ Sc w' g s a' no' ∧ w'.ownsRow base 74 10 rv' (n + 1) (xs ++ rowCell x) ∧ OwnV w' base x ∧ Aw (g :: r :: rv.ownBlock.toList) w w'
theorem sTagsGo_step (l : List UInt8) (f a : Nat) (no : Bool) (acc : List MTag) : sTagsGo l (f + 1) a no acc = if isB l (sTagS l a no).2.1 (sTagS l a no).2.2 44 then sTagsGo l f ((sTagS l a no).2.1 + 1) false (acc ++ [(sTagS l a no).1]) else (acc ++ [(sTagS l a no).1], (sTagS l a no).2) := rfl
set_option maxRecDepth 100000 in
set_option maxHeartbeats 12800000 in
theorem sline_any (r g : Nat) (rv : Value) (s : ByteArray) (a : Nat) (R : MRow) (a' : Nat) (no' : Bool) (base n : Nat) (xs : List Value) (w : World) (h : LR w w r g rv s a false) (hown : w.ownsRow base 74 10 rv n xs) (hb : base ≤ w.heap.size) (hn : n ≤ 1048577) (ha : a < s.size) (hs : s.size ≤ 1048576) (hR : statLineS s.data.toList a = (R, a', no')) :
    Calls Tryz.prog 39 #[.pointer (some ⟨r, 0, none⟩)] w fun e w' => e = .returned (.tuple #[]) ∧ OneRow w r g rv s base n xs R a' no' w' := by
  have hL : s.data.toList.length = s.size := by simp
  have hs2 : s.size ≤ 4611686018427387904 := Nat.le_trans hs (by decide)
  have hr := Blk.lt h.rd
  have hg := Blk.lt h.sc
  obtain ⟨a1, n1, h1⟩ : ∃ a1 n1, someS s.data.toList stName a false = (a1, n1) := ⟨_, _, rfl⟩
  obtain ⟨a2, n2, h2⟩ : ∃ a2 n2, wordS s.data.toList [58] a1 n1 = (a2, n2) := ⟨_, _, rfl⟩
  obtain ⟨a3, n3, h3⟩ : ∃ a3 n3, someS s.data.toList stInk a2 n2 = (a3, n3) := ⟨_, _, rfl⟩
  obtain ⟨a4, n4, h4⟩ : ∃ a4 n4, wordS s.data.toList [124] a3 n3 = (a4, n4) := ⟨_, _, rfl⟩
  obtain ⟨K, a5, n5, h5⟩ : ∃ K a5 n5, kindS s.data.toList a4 n4 = (K, a5, n5) := ⟨_, _, _, rfl⟩
  have hl1 := someS_le s.data.toList stName a false (by rw [hL]; omega)
  rw [h1, hL] at hl1
  have hl2 := wordS_le s.data.toList [58] a1 n1 (by rw [hL]; exact hl1.2)
  rw [h2, hL] at hl2
  have hl3 := someS_le s.data.toList stInk a2 n2 (by rw [hL]; exact hl2.2)
  rw [h3, hL] at hl3
  have hl4 := wordS_le s.data.toList [124] a3 n3 (by rw [hL]; exact hl3.2)
  rw [h4, hL] at hl4
  have hl5 := kindS_le (l := s.data.toList) n4 (by rw [hL]; exact hl4.2)
  rw [h5, hL] at hl5
  simp only at hl1 hl2 hl3 hl4 hl5
  unfold statLineS at hR
  simp only [h1, h2, h3, h4, h5] at hR
  have kA := fun W a no h => at_any g s a no W h
  have kN := fun W h => some_stname g s a false a1 n1 W h (by omega) hs2 h1
  have kW := fun W h => word_any g s ⟨#[58]⟩ a1 n1 a2 n2 W h hl1.2 hs2 (by decide) h2
  have kI := fun W h => some_stink g s a2 n2 a3 n3 W h hl2.2 hs2 h3
  have kV := fun W h => word_any g s ⟨#[124]⟩ a3 n3 a4 n4 W h hl3.2 hs2 (by decide) h4
  have kK := fun W h => kind_any r g rv s a4 n4 K a5 n5 W h hl4.2 hs h5
  have kT := fun W h => takes_any g s a5 n5 124 W h hl5.2 hs2
  unfold takeA at kT
  rw [ext_cut] at kN kI
  generalize mkS (cutL s.data.toList a a1) = V1 at kN hR
  generalize mkS (cutL s.data.toList a2 a3) = V5 at kI hR
  have HL := Lib.hid hL
  obtain ⟨i0, hi0, hz0, hz1, hz2⟩ := info_parts Tryz.infoTag
  obtain ⟨i2, hi2, jz0, jz1, jz2⟩ := info_parts Tryz.infoRow
  have hut : Tryz.prog.underlying 71 = some (.slice 78) := by kernel_rfl
  have hur : Tryz.prog.underlying 23 = some (.slice 74) := by kernel_rfl
  have L1 : LX w (w.alloc (.cells #[.int .i64 0, .string ⟨#[]⟩, .int .i64 (a : Int), .slice none 0 0, .slice none 0 0, .string ⟨#[]⟩, .int .i64 0, .bool false, .string ⟨#[]⟩, .int .i64 0] 74)) r g w.heap.size rv s a false 0 ⟨#[]⟩ a (.slice none 0 0) [] ⟨#[]⟩ 0 false ⟨#[]⟩ 0 :=
    ⟨h.alloc _, by
      have := Blk.new w 74 #[.int .i64 0, .string ⟨#[]⟩, .int .i64 (a : Int), .slice none 0 0, .slice none 0 0, .string ⟨#[]⟩, .int .i64 0, .bool false, .string ⟨#[]⟩, .int .i64 0]
      simpa [Rw] using this, World.ownsRow_nil _ _ _ _, hr, hg, Nat.le_refl _⟩
  have x0 := h.facts
  have x1 := L1.facts
  clear h1 h2 h3 h4 h5 hL
  go_enter Tryz.func39, Tryz.ntmps39
  go_upto_region 7 with (first
    | (go_at_call 25; (with_reducible refine (kA _ a false h.sc).mono ?_); rintro e w1 ⟨rfl, rfl⟩)
    | (go_at_call 62; (with_reducible refine (kN _ L1.lr.sc).mono ?_); rintro e w2 ⟨rfl, h2, hA2⟩; have L2 := L1.scan hA2 h2 (by simp); have x2 := L2.facts; obtain ⟨_, _, f2, _⟩ := L2.rw_.facts; have L3 := L2.name V1; have x3 := L3.facts)
    | (go_at_call 64; (with_reducible refine (kW _ L3.lr.sc).mono ?_); rintro e w4 ⟨rfl, h4, hA4⟩; have L4 := L3.scan hA4 h4 (by simp); have x4 := L4.facts; obtain ⟨_, _, _, _, _, _, _, f6, _⟩ := L4.rw_.facts; have L5 := L4.pos_ a2; have x5 := L5.facts)
    | (go_at_call 25; (with_reducible refine (kA _ a2 n2 L4.lr.sc).mono ?_); rintro e w5 ⟨rfl, rfl⟩)
    | (go_at_call 62; (with_reducible refine (kI _ L5.lr.sc).mono ?_); rintro e w6 ⟨rfl, h6, hA6⟩; have L6 := L5.scan hA6 h6 (by simp); have x6 := L6.facts; obtain ⟨_, _, _, _, _, _, f8, _⟩ := L6.rw_.facts; have L7 := L6.text_ V5; have x7 := L7.facts)
    | (go_at_call 64; (with_reducible refine (kV _ L7.lr.sc).mono ?_); rintro e w8 ⟨rfl, h8, hA8⟩; have L8 := L7.scan hA8 h8 (by simp); have x8 := L8.facts)
    | (go_at_call 66; (with_reducible refine (kK _ L8.lr.self).mono ?_); rintro e w9 ⟨rfl, h9⟩; have L9 := L8.call h9; obtain ⟨_, f9, _⟩ := L9.rw_.facts; have L10 := L9.kind_ K (u := .int .i64 (K : Int)) rfl))
  revert L10
  generalize World.setCell _ _ _ = W10
  intro L10
  clear L9 L8 L7 L6 L5 L4 L3 L2 L1 kN kW kI kV kK h2 hA2 h4 hA4 h6 hA6 h8 hA8 h9 f2 f6 f8 f9 x0 x1 x2 x3 x4 x5 x6 x7 x8
  have x10 := L10.facts
  cases b1 : isB s.data.toList a5 n5 124
  case false =>
    simp only [b1, Bool.false_eq_true, if_false] at kT hR
    obtain ⟨hRow, hF⟩ : _ ∧ wordS s.data.toList [10] a5 n5 = (a', no') := by injection hR with e1 e2; exact ⟨e1, e2⟩
    have HRow := Lib.hid hRow
    clear hR hRow b1
    have kF := fun W h => word_any g s ⟨#[10]⟩ a5 n5 a' no' W h (by omega) hs2 (by decide) hF
    clear hF
    go_upto_region 18 with (first
      | (go_at_call 67; (with_reducible refine (kT _ L10.lr.sc).mono ?_); rintro e w11 ⟨rfl, h11, hA11⟩; have L11 := L10.scan hA11 h11 (by simp); have x11 := L11.facts)
      | (go_at_call 64; (with_reducible refine (kF _ L11.lr.sc).mono ?_); rintro e w15 ⟨rfl, h15, hA15⟩; have L15 := L11.scan hA15 h15 (by simp)))
    have x15 := L15.facts
    obtain ⟨X, hX⟩ : ∃ X : VRow, X = rowOf K V1 a none ([] : List MTag) 0 V5 a2 false ⟨#[]⟩ (0 : Nat) := ⟨_, rfl⟩
    have hown5 : w15.drew.ownsRow base 74 10 rv n xs := own_aw hown L15.lr.aw.drew (fun k hk e => by
      rw [List.mem_singleton] at e
      subst e; exact own_blk_ne hown h.sc (by decide) hk)
    obtain ⟨_, y2, y3⟩ := L15.lr.rd.facts
    obtain ⟨⟨q0, q1, q2, q3, q4, q5, q6, q7, q8, q9⟩, _⟩ := L15.rw_.facts
    obtain ⟨m0, m1, m2⟩ := Rd.facts (Blk.alloc L15.lr.rd (.cells #[.int .i64 (K : Int), .string V1, .int .i64 (a : Int), .slice none 0 0, .slice none 0 0, .string V5, .int .i64 (a2 : Int), .bool false, .string ⟨#[]⟩, .int .i64 0] 74))
    go_region_law (refine step_append_lies _ (by rfl) _ _ _ (by rfl) base 74 i2 _ 10 136 hur hi2 jz0 jz1 jz2 rfl (by omega) rv n xs (by rfl) (hown5.alloc _) ⟨w15.heap.size, 0, none⟩ 1 1 (rowCell X) (by rfl) (by rfl) (by rw [hX]; exact World.news_of_block (heap_alloc_new w15.drew _)) (by rw [hX]; simp [rowCell, rowOf, Value.oneCell']) (by omega) (by simp [maxLen]; omega) (by omega) (by have := L15.lr.aw.size; simp; omega) (w15.heap.size + 1) (by simp) ?_; intro gg capg w18 hown18 hgrow hat18 hlt18; rw [hX] at hown18; have hfin := line_end (rv' := .slice (some ⟨gg, 0, none⟩) (n + 1) capg) L15.drew hown5 hb (((Aw.refl _ _).alloc _).grown hgrow (fun k hk => .inl (by simpa using hk))) hown18; obtain ⟨g0, g1, g2⟩ := Rd.facts (Blk.grown (w := _) (Blk.alloc L15.drew.lr.rd _) hgrow (fun e => own_blk_ne hown5 L15.drew.lr.rd (by decide) e.symm)))
    all_goals
      go_wp2_with fail
      go_end0
      exact ⟨rfl, _, _, HRow.out, hfin⟩
  case true =>
    have hk := isB_lt b1
    rw [HL.out] at hk
    obtain ⟨hk1, hk2, _⟩ := hk
    subst hk2
    simp only [b1, if_true] at kT hR
    have kT2 := fun W h => takes_any g s (a5 + 1) false 64 W h (by omega) hs2
    unfold takeA at kT2
    cases b2 : isB s.data.toList (a5 + 1) false 64
    case false =>
      simp only [b2, Bool.false_eq_true, if_false] at kT2 hR
      clear b1 b2
      obtain ⟨hh, nh, hH⟩ : ∃ hh nh, wordS s.data.toList [35] (a5 + 1) false = (hh, nh) := ⟨_, _, rfl⟩
      obtain ⟨T, a7, n7, hM⟩ : ∃ T a7 n7, sMoreS s.data.toList (a5 + 1) = (T, a7, n7) := ⟨_, _, _, rfl⟩
      rw [hM] at hR
      simp only at hR
      obtain ⟨hRow, hF⟩ : _ ∧ wordS s.data.toList [10] a7 n7 = (a', no') := by injection hR with e1 e2; exact ⟨e1, e2⟩
      have HRow := Lib.hid hRow
      have HF := Lib.hid hF
      clear hRow hF hR
      unfold sMoreS at hM
      rw [hH] at hM
      have hlh := wordS_le s.data.toList [35] (a5 + 1) false (by rw [HL.out]; omega)
      rw [hH, HL.out] at hlh
      obtain ⟨X, p, np, hX⟩ : ∃ X p np, sTagS s.data.toList hh nh = (X, p, np) := ⟨_, _, _, rfl⟩
      have hlx := sTagS_le (l := s.data.toList) nh (show hh ≤ s.data.toList.length by rw [HL.out]; exact hlh.2)
      rw [hX, HL.out] at hlx
      simp only at hlh hlx hM
      rw [sTagsGo_step, hX] at hM
      simp only [List.nil_append] at hM
      have HM := Lib.hid hM
      have kH := fun W h => word_any g s ⟨#[35]⟩ (a5 + 1) false hh nh W h (by omega) hs2 (by decide) hH
      have kG := fun W h => stag_any r g rv s hh nh X p np W h hlh.2 hs hX
      clear hM hH hX
      go_upto_region 14 with (first
        | (go_at_call 67; (with_reducible refine (kT _ L10.lr.sc).mono ?_); rintro e w11 ⟨rfl, h11, hA11⟩; have L11 := L10.scan hA11 h11 (by simp); have x11 := L11.facts)
        | (go_at_call 67; (with_reducible refine (kT2 _ L11.lr.sc).mono ?_); rintro e w12 ⟨rfl, h12, hA12⟩; have L12 := L11.scan hA12 h12 (by simp); have x12 := L12.facts; obtain ⟨_, f0, f1, f2, f3, f4, f5, f6, f7, f8, f9⟩ := L12.rw_.facts)
        | (go_at_call 64; (with_reducible refine (kH _ L12.lr.sc).mono ?_); rintro e w20 ⟨rfl, h20, hA20⟩; have L20 := L12.scan hA20 h20 (by simp)))
      have x20 := L20.facts
      obtain ⟨⟨_, _, _, y2, _⟩, _⟩ := L20.rw_.facts
      go_cut [] from 78 to 84 (fun wx => ∃ tv, LX w wx r g w.heap.size rv s p np K V1 a tv [X] V5 a2 false ⟨#[]⟩ (0 : Nat))
      case first =>
        go_region_law (first
          | (go_simp; go_at_call 69; refine (kG _ L20.drew.lr.self).mono ?_; rintro e w21 ⟨rfl, k21⟩; have L21 := L20.drew.call k21; have v1 := L21.facts; obtain ⟨⟨_, _, _, v2, _⟩, _, _, _, v3, _⟩ := L21.rw_.facts; obtain ⟨⟨_, _, _, v4, _⟩, _⟩ := Rw.facts (Blk.alloc L21.rw_ (.cells #[.string X.name, .string X.value, .int .i64 (X.off : Int), .int .i64 (X.pos : Int)] 78)))
          | (refine step_append_lies _ (by rfl) _ _ _ (by rfl) w.heap.size 78 i0 _ 4 48 hut hi0 hz0 hz1 hz2 rfl (by omega) (.slice none 0 0) 0 [] (by rfl) (L21.tg.alloc _) ⟨w21.heap.size, 0, none⟩ 1 1 (tagCell X) (by rfl) (by rfl) (World.news_of_block (heap_alloc_new w21 _)) (by simp [tagCell, Value.oneCell']) (by omega) (by simp [maxLen]) (by omega) (by have := L21.lr.aw.size; simp; omega) (w21.heap.size + 1) (by simp) ?_; intro gg capg w22 hown22 hgrow hat22 hlt22; obtain ⟨_, _, _, _, r4, _⟩ := Rw.facts (Blk.grown (w := _) (Blk.alloc L21.rw_ _) hgrow (fun e => by simp [Value.ownBlock] at e)); have L22 := L21.tags_ (((Aw.refl _ _).alloc _).grown hgrow (fun k hk => .inl (by simp [hk]))) hown22))
        all_goals
          go_wp2_with fail
          go_meet
          exact ⟨_, by simpa using L22⟩
      case rest =>
        obtain ⟨tv, hY⟩ := hcut
        clear L20 y2 x20 kH kG
        go_wp2_with fail
        go_loopw [85] (fun _ wr => ∃ (p f : Nat) (np : Bool) (acc : List MTag) (tv : Value), p ≤ s.size ∧ s.size < f + p + 1 ∧ acc.length ≤ p + 1 ∧ LX w wr r g w.heap.size rv s p np K V1 a tv acc V5 a2 false ⟨#[]⟩ (0 : Nat) ∧ Hid ((if isB s.data.toList p np 44 then sTagsGo s.data.toList f (p + 1) false acc else (acc, p, np)) = (T, a7, n7))) (fun _ wr => s.size - atOf wr g)
        case atStart => exact ⟨p, _, np, [X], tv, hlx.2, by (have := HL.out; omega), by simp, hY, HM⟩
        case round =>
          clear hY HM hlx
          obtain ⟨p, f, np, acc, tv, hp, hf, hacc, hX, HT⟩ := hrel
          have z0 := hX.facts
          have hT := HT.out
          have kT := fun W h => takes_any g s p np 44 W h hp hs2
          unfold takeA at kT
          have hat := hX.lr.sc.atOf
          cases hq : isB s.data.toList p np 44
          case true =>
            have hlt := (isB_lt hq).1
            rw [HL.out] at hlt
            have hnp := (isB_lt hq).2.1
            subst hnp
            obtain ⟨f, rfl⟩ : ∃ f', f = f' + 1 := ⟨f - 1, by omega⟩
            simp only [hq, if_true] at kT hT
            obtain ⟨X2, p2, np2, hX2⟩ : ∃ X' p' np', sTagS s.data.toList (p + 1) false = (X', p', np') := ⟨_, _, _, rfl⟩
            have hlx := sTagS_le (l := s.data.toList) (a := p + 1) false (by rw [HL.out]; omega)
            rw [hX2, HL.out] at hlx
            rw [sTagsGo_step, hX2] at hT
            simp only at hlx hT
            have HT2 := Lib.hid hT
            have kG := fun W h => stag_any r g rv s (p + 1) false X2 p2 np2 W h (by omega) hs hX2
            clear hT HT hq hX2
            go_upto_region 16 with (go_at_call 67; (with_reducible refine (kT _ hX.lr.sc).mono ?_); rintro e w5 ⟨rfl, h5, hA5⟩; have L6 := hX.scan hA5 h5 (by simp))
            have y0 := L6.facts
            obtain ⟨⟨_, _, _, y2, _⟩, _⟩ := L6.rw_.facts
            go_region_law (first
              | (go_simp; go_at_call 69; refine (kG _ L6.drew.lr.self).mono ?_; rintro e w7 ⟨rfl, k7⟩; have L7 := L6.drew.call k7; have v1 := L7.facts; obtain ⟨⟨_, _, _, v2, _⟩, _, _, _, v3, _⟩ := L7.rw_.facts; obtain ⟨⟨_, _, _, v4, _⟩, _⟩ := Rw.facts (Blk.alloc L7.rw_ (.cells #[.string X2.name, .string X2.value, .int .i64 (X2.off : Int), .int .i64 (X2.pos : Int)] 78)))
              | (refine step_append_lies _ (by rfl) _ _ _ (by rfl) w.heap.size 78 i0 _ 4 48 hut hi0 hz0 hz1 hz2 rfl (by omega) tv acc.length (acc.flatMap tagCell) (by rfl) (L7.tg.alloc _) ⟨w7.heap.size, 0, none⟩ 1 1 (tagCell X2) (by rfl) (by rfl) (World.news_of_block (heap_alloc_new w7 _)) (by simp [tagCell, Value.oneCell']) (by omega) (by simp [maxLen]; omega) (by omega) (by have := L7.lr.aw.size; simp; omega) (w7.heap.size + 1) (by simp) ?_; intro gg capg w8 hown8 hgrow hat8 hlt8; obtain ⟨_, _, _, _, r4, _⟩ := Rw.facts (Blk.grown (w := _) (Blk.alloc L7.rw_ _) hgrow (fun e => own_blk_ne L7.tg L7.rw_ (by decide) e.symm)); have L8 := L7.tags_ (((Aw.refl _ _).alloc _).grown hgrow (fun k hk => .inl (by simp [hk]))) hown8))
            all_goals
              go_wp2_with fail
              exact ⟨⟨p2, f, np2, acc ++ [X2], _, hlx.2, by omega, by simp; omega, L8, HT2⟩, by rw [L8.lr.sc.atOf, hat]; omega⟩
          case false =>
            simp only [hq, Bool.false_eq_true, if_false] at kT hT
            obtain ⟨rfl, rfl, rfl⟩ : acc = T ∧ p = a7 ∧ np = n7 := by injection hT with e1 e2; injection e2 with e3 e4; exact ⟨e1, e3, e4⟩
            have hF := HF.out
            obtain ⟨tA, tc, rfl⟩ := own_form hX.tg
            clear hT HT hq HF
            have kF := fun W h => word_any g s ⟨#[10]⟩ p np a' no' W h (by omega) hs2 (by decide) hF
            clear hF
            go_upto_region 18 with (first
              | (go_at_call 67; (with_reducible refine (kT _ hX.lr.sc).mono ?_); rintro e w5 ⟨rfl, h5, hA5⟩; have L6 := hX.scan hA5 h5 (by simp); have y0 := L6.facts)
              | (go_at_call 64; (with_reducible refine (kF _ L6.lr.sc).mono ?_); rintro e w15 ⟨rfl, h15, hA15⟩; have L15 := L6.scan hA15 h15 (by simp)))
            have x15 := L15.facts
            obtain ⟨X, hX⟩ : ∃ X : VRow, X = rowOf K V1 a tA acc tc V5 a2 false ⟨#[]⟩ (0 : Nat) := ⟨_, rfl⟩
            have hown5 : w15.drew.ownsRow base 74 10 rv n xs := own_aw hown L15.lr.aw.drew (fun k hk e => by
              rw [List.mem_singleton] at e
              subst e; exact own_blk_ne hown h.sc (by decide) hk)
            obtain ⟨_, y2, y3⟩ := L15.lr.rd.facts
            obtain ⟨⟨q0, q1, q2, q3, q4, q5, q6, q7, q8, q9⟩, _⟩ := L15.rw_.facts
            obtain ⟨m0, m1, m2⟩ := Rd.facts (Blk.alloc L15.lr.rd (.cells #[.int .i64 (K : Int), .string V1, .int .i64 (a : Int), .slice tA acc.length tc, .slice none 0 0, .string V5, .int .i64 (a2 : Int), .bool false, .string ⟨#[]⟩, .int .i64 0] 74))
            go_region_law (refine step_append_lies _ (by rfl) _ _ _ (by rfl) base 74 i2 _ 10 136 hur hi2 jz0 jz1 jz2 rfl (by omega) rv n xs (by rfl) (hown5.alloc _) ⟨w15.heap.size, 0, none⟩ 1 1 (rowCell X) (by rfl) (by rfl) (by rw [hX]; exact World.news_of_block (heap_alloc_new w15.drew _)) (by rw [hX]; simp [rowCell, rowOf, Value.oneCell']) (by omega) (by simp [maxLen]; omega) (by omega) (by have := L15.lr.aw.size; simp; omega) (w15.heap.size + 1) (by simp) ?_; intro gg capg w18 hown18 hgrow hat18 hlt18; rw [hX] at hown18; have hfin := line_end (rv' := .slice (some ⟨gg, 0, none⟩) (n + 1) capg) L15.drew hown5 hb (((Aw.refl _ _).alloc _).grown hgrow (fun k hk => .inl (by simpa using hk))) hown18; obtain ⟨g0, g1, g2⟩ := Rd.facts (Blk.grown (w := _) (Blk.alloc L15.drew.lr.rd _) hgrow (fun e => own_blk_ne hown5 L15.drew.lr.rd (by decide) e.symm)))
            all_goals
              go_wp2_with fail
              go_end0
              exact ⟨rfl, _, _, HRow.out, hfin⟩
    case true =>
      have hk3 := (isB_lt b2).1
      rw [HL.out] at hk3
      simp only [b2, if_true] at kT2 hR
      obtain ⟨a6, n6, h6⟩ : ∃ a6 n6, decS s.data.toList (a5 + 2) false = (a6, n6) := ⟨_, _, rfl⟩
      have hl6 := decS_le s.data.toList (a5 + 2) false (by rw [HL.out]; omega)
      rw [h6, HL.out] at hl6
      simp only [h6] at hR hl6
      have kD := fun W h => dec_any g s (a5 + 2) false a6 n6 W h (by omega) hs2 h6
      rw [ext_cut] at kD
      have kT3 := fun W h => takes_any g s a6 n6 124 W h hl6.2 hs2
      unfold takeA at kT3
      generalize mkS (cutL s.data.toList (a5 + 2) a6) = VT at kD hR
      clear b1 b2 h6
      go_upto_region 9 with (first
        | (go_at_call 67; (with_reducible refine (kT _ L10.lr.sc).mono ?_); rintro e w11 ⟨rfl, h11, hA11⟩; have L11 := L10.scan hA11 h11 (by simp); have x11 := L11.facts)
        | (go_at_call 67; (with_reducible refine (kT2 _ L11.lr.sc).mono ?_); rintro e w12 ⟨rfl, h12, hA12⟩; have L12 := L11.scan hA12 h12 (by simp); have x12 := L12.facts; obtain ⟨_, f0, f1, f2, f3, f4, f5, f6, f7, f8, f9⟩ := L12.rw_.facts))
      have kA2 := fun W h => at_any g s (a5 + 2) false W h
      have L12' : LX w w12 r g w.heap.size rv s (a5 + 2) false K V1 a (.slice none 0 0) [] V5 a2 false ⟨#[]⟩ 0 := L12
      clear L12 L11 L10 h11 hA11 h12 hA12 kT kT2 x10 x11
      have L14 := (L12'.timed_ true).when_ (a5 + 2)
      have x14 := L14.facts
      generalize hp2 : a5 + 2 = pd at kA2 L12' L14 kD hR ⊢
      go_upto_region 11 with (first
        | (go_at_call 25; (with_reducible refine (kA2 _ L12'.lr.sc).mono ?_); rintro e w13 ⟨rfl, rfl⟩)
        | (go_at_call 68; (with_reducible refine (kD _ L14.lr.sc).mono ?_); rintro e w16 ⟨rfl, h16, hA16⟩; have L16 := L14.scan hA16 h16 (by simp); have x16 := L16.facts; obtain ⟨_, _, _, _, _, _, _, _, _, f8, _⟩ := L16.rw_.facts; have L17 := L16.time_ VT))
      revert L17
      generalize World.setCell _ _ _ = W17
      intro L17
      clear L16 x16 h16 hA16 kD kA2 L14 L12' x12 x14 f0 f1 f2 f3 f4 f5 f6 f7 f8 f9
      have x17 := L17.facts
      cases b3 : isB s.data.toList a6 n6 124
      case false =>
        simp only [b3, Bool.false_eq_true, if_false] at kT3 hR
        obtain ⟨hRow, hF⟩ : _ ∧ wordS s.data.toList [10] a6 n6 = (a', no') := by injection hR with e1 e2; exact ⟨e1, e2⟩
        have HRow := Lib.hid hRow
        clear hR hRow b3
        have kF := fun W h => word_any g s ⟨#[10]⟩ a6 n6 a' no' W h (by omega) hs2 (by decide) hF
        clear hF
        go_upto_region 18 with (first
          | (go_at_call 67; (with_reducible refine (kT3 _ L17.lr.sc).mono ?_); rintro e w18' ⟨rfl, h18, hA18⟩; have L18 := L17.scan hA18 h18 (by simp); have x18 := L18.facts)
          | (go_at_call 64; (with_reducible refine (kF _ L18.lr.sc).mono ?_); rintro e w15 ⟨rfl, h15, hA15⟩; have L15 := L18.scan hA15 h15 (by simp)))
        have x15 := L15.facts
        obtain ⟨X, hX⟩ : ∃ X : VRow, X = rowOf K V1 a none ([] : List MTag) 0 V5 a2 true VT pd := ⟨_, rfl⟩
        have hown5 : w15.drew.ownsRow base 74 10 rv n xs := own_aw hown L15.lr.aw.drew (fun k hk e => by
          rw [List.mem_singleton] at e
          subst e; exact own_blk_ne hown h.sc (by decide) hk)
        obtain ⟨_, y2, y3⟩ := L15.lr.rd.facts
        obtain ⟨⟨q0, q1, q2, q3, q4, q5, q6, q7, q8, q9⟩, _⟩ := L15.rw_.facts
        obtain ⟨m0, m1, m2⟩ := Rd.facts (Blk.alloc L15.lr.rd (.cells #[.int .i64 (K : Int), .string V1, .int .i64 (a : Int), .slice none 0 0, .slice none 0 0, .string V5, .int .i64 (a2 : Int), .bool true, .string VT, .int .i64 (pd : Int)] 74))
        go_region_law (refine step_append_lies _ (by rfl) _ _ _ (by rfl) base 74 i2 _ 10 136 hur hi2 jz0 jz1 jz2 rfl (by omega) rv n xs (by rfl) (hown5.alloc _) ⟨w15.heap.size, 0, none⟩ 1 1 (rowCell X) (by rfl) (by rfl) (by rw [hX]; exact World.news_of_block (heap_alloc_new w15.drew _)) (by rw [hX]; simp [rowCell, rowOf, Value.oneCell']) (by omega) (by simp [maxLen]; omega) (by omega) (by have := L15.lr.aw.size; simp; omega) (w15.heap.size + 1) (by simp) ?_; intro gg capg w18 hown18 hgrow hat18 hlt18; rw [hX] at hown18; have hfin := line_end (rv' := .slice (some ⟨gg, 0, none⟩) (n + 1) capg) L15.drew hown5 hb (((Aw.refl _ _).alloc _).grown hgrow (fun k hk => .inl (by simpa using hk))) hown18; obtain ⟨g0, g1, g2⟩ := Rd.facts (Blk.grown (w := _) (Blk.alloc L15.drew.lr.rd _) hgrow (fun e => own_blk_ne hown5 L15.drew.lr.rd (by decide) e.symm)))
        all_goals
          go_wp2_with fail
          go_end0
          exact ⟨rfl, _, _, HRow.out, hfin⟩
      case true =>
        have hk4 := isB_lt b3
        rw [HL.out] at hk4
        obtain ⟨hk4, hk5, _⟩ := hk4
        subst hk5
        simp only [b3, if_true] at kT3 hR
        clear b3
        obtain ⟨hh, nh, hH⟩ : ∃ hh nh, wordS s.data.toList [35] (a6 + 1) false = (hh, nh) := ⟨_, _, rfl⟩
        obtain ⟨T, a7, n7, hM⟩ : ∃ T a7 n7, sMoreS s.data.toList (a6 + 1) = (T, a7, n7) := ⟨_, _, _, rfl⟩
        rw [hM] at hR
        simp only at hR
        obtain ⟨hRow, hF⟩ : _ ∧ wordS s.data.toList [10] a7 n7 = (a', no') := by injection hR with e1 e2; exact ⟨e1, e2⟩
        have HRow := Lib.hid hRow
        have HF := Lib.hid hF
        clear hRow hF hR
        unfold sMoreS at hM
        rw [hH] at hM
        have hlh := wordS_le s.data.toList [35] (a6 + 1) false (by rw [HL.out]; omega)
        rw [hH, HL.out] at hlh
        obtain ⟨X, p, np, hX⟩ : ∃ X p np, sTagS s.data.toList hh nh = (X, p, np) := ⟨_, _, _, rfl⟩
        have hlx := sTagS_le (l := s.data.toList) nh (show hh ≤ s.data.toList.length by rw [HL.out]; exact hlh.2)
        rw [hX, HL.out] at hlx
        simp only at hlh hlx hM
        rw [sTagsGo_step, hX] at hM
        simp only [List.nil_append] at hM
        have HM := Lib.hid hM
        have kH := fun W h => word_any g s ⟨#[35]⟩ (a6 + 1) false hh nh W h (by omega) hs2 (by decide) hH
        have kG := fun W h => stag_any r g rv s hh nh X p np W h hlh.2 hs hX
        clear hM hH hX
        go_upto_region 14 with (first
          | (go_at_call 67; (with_reducible refine (kT3 _ L17.lr.sc).mono ?_); rintro e w18' ⟨rfl, h18, hA18⟩; have L18 := L17.scan hA18 h18 (by simp); have x18 := L18.facts)
          | (go_at_call 64; (with_reducible refine (kH _ L18.lr.sc).mono ?_); rintro e w20 ⟨rfl, h20, hA20⟩; have L20 := L18.scan hA20 h20 (by simp)))
        have x20 := L20.facts
        obtain ⟨⟨_, _, _, y2, _⟩, _⟩ := L20.rw_.facts
        go_cut [] from 78 to 84 (fun wx => ∃ tv, LX w wx r g w.heap.size rv s p np K V1 a tv [X] V5 a2 true VT pd)
        case first =>
          go_region_law (first
            | (go_simp; go_at_call 69; refine (kG _ L20.drew.lr.self).mono ?_; rintro e w21 ⟨rfl, k21⟩; have L21 := L20.drew.call k21; have v1 := L21.facts; obtain ⟨⟨_, _, _, v2, _⟩, _, _, _, v3, _⟩ := L21.rw_.facts; obtain ⟨⟨_, _, _, v4, _⟩, _⟩ := Rw.facts (Blk.alloc L21.rw_ (.cells #[.string X.name, .string X.value, .int .i64 (X.off : Int), .int .i64 (X.pos : Int)] 78)))
            | (refine step_append_lies _ (by rfl) _ _ _ (by rfl) w.heap.size 78 i0 _ 4 48 hut hi0 hz0 hz1 hz2 rfl (by omega) (.slice none 0 0) 0 [] (by rfl) (L21.tg.alloc _) ⟨w21.heap.size, 0, none⟩ 1 1 (tagCell X) (by rfl) (by rfl) (World.news_of_block (heap_alloc_new w21 _)) (by simp [tagCell, Value.oneCell']) (by omega) (by simp [maxLen]) (by omega) (by have := L21.lr.aw.size; simp; omega) (w21.heap.size + 1) (by simp) ?_; intro gg capg w22 hown22 hgrow hat22 hlt22; obtain ⟨_, _, _, _, r4, _⟩ := Rw.facts (Blk.grown (w := _) (Blk.alloc L21.rw_ _) hgrow (fun e => by simp [Value.ownBlock] at e)); have L22 := L21.tags_ (((Aw.refl _ _).alloc _).grown hgrow (fun k hk => .inl (by simp [hk]))) hown22))
          all_goals
            go_wp2_with fail
            go_meet
            exact ⟨_, by simpa using L22⟩
        case rest =>
          obtain ⟨tv, hY⟩ := hcut
          clear L20 y2 x20 kH kG
          go_wp2_with fail
          go_loopw [85] (fun _ wr => ∃ (p f : Nat) (np : Bool) (acc : List MTag) (tv : Value), p ≤ s.size ∧ s.size < f + p + 1 ∧ acc.length ≤ p + 1 ∧ LX w wr r g w.heap.size rv s p np K V1 a tv acc V5 a2 true VT pd ∧ Hid ((if isB s.data.toList p np 44 then sTagsGo s.data.toList f (p + 1) false acc else (acc, p, np)) = (T, a7, n7))) (fun _ wr => s.size - atOf wr g)
          case atStart => exact ⟨p, _, np, [X], tv, hlx.2, by (have := HL.out; omega), by simp, hY, HM⟩
          case round =>
            clear hY HM hlx
            obtain ⟨p, f, np, acc, tv, hp, hf, hacc, hX, HT⟩ := hrel
            have z0 := hX.facts
            have hT := HT.out
            have kT := fun W h => takes_any g s p np 44 W h hp hs2
            unfold takeA at kT
            have hat := hX.lr.sc.atOf
            cases hq : isB s.data.toList p np 44
            case true =>
              have hlt := (isB_lt hq).1
              rw [HL.out] at hlt
              have hnp := (isB_lt hq).2.1
              subst hnp
              obtain ⟨f, rfl⟩ : ∃ f', f = f' + 1 := ⟨f - 1, by omega⟩
              simp only [hq, if_true] at kT hT
              obtain ⟨X2, p2, np2, hX2⟩ : ∃ X' p' np', sTagS s.data.toList (p + 1) false = (X', p', np') := ⟨_, _, _, rfl⟩
              have hlx := sTagS_le (l := s.data.toList) (a := p + 1) false (by rw [HL.out]; omega)
              rw [hX2, HL.out] at hlx
              rw [sTagsGo_step, hX2] at hT
              simp only at hlx hT
              have HT2 := Lib.hid hT
              have kG := fun W h => stag_any r g rv s (p + 1) false X2 p2 np2 W h (by omega) hs hX2
              clear hT HT hq hX2
              go_upto_region 16 with (go_at_call 67; (with_reducible refine (kT _ hX.lr.sc).mono ?_); rintro e w5 ⟨rfl, h5, hA5⟩; have L6 := hX.scan hA5 h5 (by simp))
              have y0 := L6.facts
              obtain ⟨⟨_, _, _, y2, _⟩, _⟩ := L6.rw_.facts
              go_region_law (first
                | (go_simp; go_at_call 69; refine (kG _ L6.drew.lr.self).mono ?_; rintro e w7 ⟨rfl, k7⟩; have L7 := L6.drew.call k7; have v1 := L7.facts; obtain ⟨⟨_, _, _, v2, _⟩, _, _, _, v3, _⟩ := L7.rw_.facts; obtain ⟨⟨_, _, _, v4, _⟩, _⟩ := Rw.facts (Blk.alloc L7.rw_ (.cells #[.string X2.name, .string X2.value, .int .i64 (X2.off : Int), .int .i64 (X2.pos : Int)] 78)))
                | (refine step_append_lies _ (by rfl) _ _ _ (by rfl) w.heap.size 78 i0 _ 4 48 hut hi0 hz0 hz1 hz2 rfl (by omega) tv acc.length (acc.flatMap tagCell) (by rfl) (L7.tg.alloc _) ⟨w7.heap.size, 0, none⟩ 1 1 (tagCell X2) (by rfl) (by rfl) (World.news_of_block (heap_alloc_new w7 _)) (by simp [tagCell, Value.oneCell']) (by omega) (by simp [maxLen]; omega) (by omega) (by have := L7.lr.aw.size; simp; omega) (w7.heap.size + 1) (by simp) ?_; intro gg capg w8 hown8 hgrow hat8 hlt8; obtain ⟨_, _, _, _, r4, _⟩ := Rw.facts (Blk.grown (w := _) (Blk.alloc L7.rw_ _) hgrow (fun e => own_blk_ne L7.tg L7.rw_ (by decide) e.symm)); have L8 := L7.tags_ (((Aw.refl _ _).alloc _).grown hgrow (fun k hk => .inl (by simp [hk]))) hown8))
              all_goals
                go_wp2_with fail
                exact ⟨⟨p2, f, np2, acc ++ [X2], _, hlx.2, by omega, by simp; omega, L8, HT2⟩, by rw [L8.lr.sc.atOf, hat]; omega⟩
            case false =>
              simp only [hq, Bool.false_eq_true, if_false] at kT hT
              obtain ⟨rfl, rfl, rfl⟩ : acc = T ∧ p = a7 ∧ np = n7 := by injection hT with e1 e2; injection e2 with e3 e4; exact ⟨e1, e3, e4⟩
              have hF := HF.out
              obtain ⟨tA, tc, rfl⟩ := own_form hX.tg
              clear hT HT hq HF
              have kF := fun W h => word_any g s ⟨#[10]⟩ p np a' no' W h (by omega) hs2 (by decide) hF
              clear hF
              go_upto_region 18 with (first
                | (go_at_call 67; (with_reducible refine (kT _ hX.lr.sc).mono ?_); rintro e w5 ⟨rfl, h5, hA5⟩; have L6 := hX.scan hA5 h5 (by simp); have y0 := L6.facts)
                | (go_at_call 64; (with_reducible refine (kF _ L6.lr.sc).mono ?_); rintro e w15 ⟨rfl, h15, hA15⟩; have L15 := L6.scan hA15 h15 (by simp)))
              have x15 := L15.facts
              obtain ⟨X, hX⟩ : ∃ X : VRow, X = rowOf K V1 a tA acc tc V5 a2 true VT pd := ⟨_, rfl⟩
              have hown5 : w15.drew.ownsRow base 74 10 rv n xs := own_aw hown L15.lr.aw.drew (fun k hk e => by
                rw [List.mem_singleton] at e
                subst e; exact own_blk_ne hown h.sc (by decide) hk)
              obtain ⟨_, y2, y3⟩ := L15.lr.rd.facts
              obtain ⟨⟨q0, q1, q2, q3, q4, q5, q6, q7, q8, q9⟩, _⟩ := L15.rw_.facts
              obtain ⟨m0, m1, m2⟩ := Rd.facts (Blk.alloc L15.lr.rd (.cells #[.int .i64 (K : Int), .string V1, .int .i64 (a : Int), .slice tA acc.length tc, .slice none 0 0, .string V5, .int .i64 (a2 : Int), .bool true, .string VT, .int .i64 (pd : Int)] 74))
              go_region_law (refine step_append_lies _ (by rfl) _ _ _ (by rfl) base 74 i2 _ 10 136 hur hi2 jz0 jz1 jz2 rfl (by omega) rv n xs (by rfl) (hown5.alloc _) ⟨w15.heap.size, 0, none⟩ 1 1 (rowCell X) (by rfl) (by rfl) (by rw [hX]; exact World.news_of_block (heap_alloc_new w15.drew _)) (by rw [hX]; simp [rowCell, rowOf, Value.oneCell']) (by omega) (by simp [maxLen]; omega) (by omega) (by have := L15.lr.aw.size; simp; omega) (w15.heap.size + 1) (by simp) ?_; intro gg capg w18 hown18 hgrow hat18 hlt18; rw [hX] at hown18; have hfin := line_end (rv' := .slice (some ⟨gg, 0, none⟩) (n + 1) capg) L15.drew hown5 hb (((Aw.refl _ _).alloc _).grown hgrow (fun k hk => .inl (by simpa using hk))) hown18; obtain ⟨g0, g1, g2⟩ := Rd.facts (Blk.grown (w := _) (Blk.alloc L15.drew.lr.rd _) hgrow (fun e => own_blk_ne hown5 L15.drew.lr.rd (by decide) e.symm)))
              all_goals
                go_wp2_with fail
                go_end0
                exact ⟨rfl, _, _, HRow.out, hfin⟩
end Go.Proofs.YtpknjngjkdnpiaaGreatDoor
