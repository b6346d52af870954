/- The walk of the reference's line. -/
import Derived.Test.YtdngieihlcknmaaRefL
import Derived.Deep.CutBlock
namespace Go.Proofs.Ytdngieihlcknmaa
set_option linter.unusedVariables false
set_option linter.unusedSimpArgs false
open Go.RowKit
attribute [local go_sem ↓] Go.wp_at_zero Go.wp_at_succ
/-- The loop over fields: how far, what was read. -/
def FldR (l : List UInt8) (f p : Nat) (np : Bool) (acc : List MField) (R : List MField × Nat × Bool) : Prop :=
  (np = false ∧ fieldsS l f p false acc = R) ∨ (np = true ∧ R.2 = (p, true))
theorem fieldsS_step (l : List UInt8) (f a : Nat) (no : Bool) (acc : List MField) : fieldsS l (f + 1) a no acc = if isB l (fieldS l a no).2.1 (fieldS l a no).2.2 44 then fieldsS l f ((fieldS l a no).2.1 + 1) false (acc ++ [(fieldS l a no).1]) else (acc ++ [(fieldS l a no).1], (fieldS l a no).2) := rfl
theorem field_cut {l : List UInt8} {a b1 b2 b3 : Nat} {no m1 m2 m3 : Bool} {T v : List UInt8} {kd pp : Nat} (h1 : sgn l inK false a no = (T, b1, m1)) (h2 : wordS l [61] b1 m1 = (b2, m2)) (h3 : toldS l b2 m2 = ((kd, v, pp), b3, m3)) : fieldS l a no = (⟨mkS T, mkS v, a, pp, kd⟩, b3, m3) := by
  unfold fieldS; simp only [h1, h2, h3]
theorem field_stop {l : List UInt8} {a b1 b2 : Nat} {no m1 : Bool} {T : List UInt8} (h1 : sgn l inK false a no = (T, b1, m1)) (h2 : wordS l [61] b1 m1 = (b2, true)) : (fieldS l a no).2 = (b2, true) := by
  unfold fieldS; simp only [h1, h2, toldS_no]
theorem tag_cut {l : List UInt8} {a b1 b2 b3 : Nat} {no m1 m2 m3 : Bool} {T v : List UInt8} (h1 : sgn l inK false a no = (T, b1, m1)) (h2 : wordS l [61] b1 m1 = (b2, m2)) (h3 : sgn l inK true b2 m2 = (v, b3, m3)) : tagS l a no = (⟨mkS T, mkS v, a, b2⟩, b3, m3) := by
  unfold tagS; simp only [h1, h2, h3]
theorem nextB {l : List UInt8} {p n : Nat} {c : Int} (hl : l.length = n) (hc : c ≠ 0) (h : bt l p = c) : p < n := by
  rcases Nat.lt_or_ge p n with h' | h'
  · exact h'
  · rw [bt_end (by omega)] at h; exact absurd h.symm hc
set_option maxRecDepth 100000 in
set_option maxHeartbeats 12800000 in
theorem line20_any (g : Nat) (s : ByteArray) (a : Nat) (R : MRow) (a' : Nat) (no' : Bool) (w : World) (h : Sr w g s a false) (ha : a < s.size) (hs : s.size ≤ 1048576) (hR : lineS s.data.toList a = (R, a', no')) :
    Calls Try.prog 24 #[.pointer (some ⟨g, 0, none⟩)] w fun e w' => LineE R no' w.heap.size e w' ∧ Sr w' g s a' no' ∧ Aw [g] w w' := by
  have hL : s.data.toList.length = s.size := by simp
  have hs2 : s.size ≤ 4611686018427387904 := Nat.le_trans hs (by decide)
  obtain ⟨nw, hnw⟩ : ∃ q, isB s.data.toList a false 35 = q := ⟨_, rfl⟩
  obtain ⟨T1, a1, n1, h1⟩ : ∃ T1 a1 n1, sgn s.data.toList inM false a nw = (T1, a1, n1) := ⟨_, _, _, rfl⟩
  obtain ⟨tags, a2, n2, h2⟩ : ∃ tags a2 n2, tagsS s.data.toList (s.data.toList.length + 1) a1 n1 [] = (tags, a2, n2) := ⟨_, _, _, rfl⟩
  obtain ⟨a3, n3, h3⟩ : ∃ a3 n3, wordS s.data.toList [32] a2 n2 = (a3, n3) := ⟨_, _, rfl⟩
  obtain ⟨flds, a4, n4, h4⟩ : ∃ flds a4 n4, fieldsS s.data.toList (s.data.toList.length + 1) a3 n3 [] = (flds, a4, n4) := ⟨_, _, _, rfl⟩
  unfold lineS at hR
  simp only [hnw, h1, h2, h3, h4] at hR
  have hl1 := sgn_le s.data.toList inM false a nw (by rw [hL]; omega)
  rw [h1, hL] at hl1
  have hl2 := tagsS_le (l := s.data.toList) (s.data.toList.length + 1) a1 n1 [] (by rw [hL]; exact hl1.2.1)
  rw [h2, hL] at hl2
  have hl3 := wordS_le s.data.toList [32] a2 n2 (by rw [hL]; exact hl2.2)
  rw [h3, hL] at hl3
  have hl4 := fieldsS_le (l := s.data.toList) (s.data.toList.length + 1) a3 n3 [] (by rw [hL]; exact hl3.2)
  rw [h4, hL] at hl4
  simp only at hl1 hl2 hl3 hl4
  have hg := h.lt
  have kS : ∀ W, Sr W g s a false → Calls Try.prog 38 #[.pointer (some ⟨g, 0, none⟩), .string ⟨#[44, 32]⟩, .bool false, .bool true] W fun e w' => e = .returned (.string (mkS T1)) ∧ Sr w' g s a1 n1 ∧ Aw [g] W w' := by
    intro W hW
    rw [isB_next (by decide)] at hnw
    cases nw
    · refine signs20_any g s ⟨#[44, 32]⟩ false true a false T1 a1 n1 W hW (Nat.le_of_lt ha) hs (by decide) (by decide) (fun _ _ _ => by simpa using hnw) h1
    · have h35 : bt s.data.toList a = 35 := by simpa using hnw
      rw [sgn_no] at h1
      obtain ⟨rfl, rfl, rfl⟩ := trip h1
      exact signs20_hash g s a W hW ha hs h35
  have H2 : Hid (tagsS s.data.toList (s.data.toList.length + 1) a1 n1 [] = (tags, a2, n2)) := Lib.hid h2
  have H4 : Hid (FldR s.data.toList (s.data.toList.length + 1) a3 n3 [] (flds, a4, n4)) := Lib.hid (by
    cases n3
    · exact .inl ⟨rfl, h4⟩
    · have := fieldsS_no (l := s.data.toList) a3 [] (s.data.toList.length + 1)
      rw [h4] at this
      exact .inr ⟨rfl, this⟩)
  have HR := Lib.hid hR
  have HL := Lib.hid hL
  have kW := fun W h => lit_any g s ⟨#[32]⟩ a2 n2 a3 n3 W h hl2.2 hs (by decide) h3
  generalize hV : mkS T1 = V1 at kS
  have HV := Lib.hid hV
  obtain ⟨i0, hi0, hz0, hz1, hz2⟩ := info_parts Try.infoTag
  obtain ⟨i1, hi1, iz0, iz1, iz2⟩ := info_parts Try.infoField
  clear h1 h2 h3 h4 hR hL hV hnw
  have L1 : RLX w ((w.alloc (.cells #[.int .i64 0, .string ⟨#[]⟩, .int .i64 0, .slice none 0 0, .slice none 0 0, .string ⟨#[]⟩, .int .i64 0, .bool false, .string ⟨#[]⟩, .int .i64 0] 44)).alloc (.cells #[.int .i64 0, .string ⟨#[]⟩, .int .i64 (a : Int), .slice none 0 0, .slice none 0 0, .string ⟨#[]⟩, .int .i64 0, .bool false, .string ⟨#[]⟩, .int .i64 0] 44)) g w.heap.size (w.heap.size + 1) s a false ⟨#[]⟩ a (.slice none 0 0) [] (.slice none 0 0) [] false ⟨#[]⟩ 0 :=
    ⟨Sr.alloc (h.alloc _) _, Blk.alloc (Blk.new w _ _) _, by
      have := Blk.new (w.alloc (.cells #[.int .i64 0, .string ⟨#[]⟩, .int .i64 0, .slice none 0 0, .slice none 0 0, .string ⟨#[]⟩, .int .i64 0, .bool false, .string ⟨#[]⟩, .int .i64 0] 44)) 44 #[.int .i64 0, .string ⟨#[]⟩, .int .i64 (a : Int), .slice none 0 0, .slice none 0 0, .string ⟨#[]⟩, .int .i64 0, .bool false, .string ⟨#[]⟩, .int .i64 0]
      simpa [Rw] using this, World.ownsRow_nil _ _ _ _, World.ownsRow_nil _ _ _ _, hg, Nat.le_refl _, by omega, by omega, ((Aw.refl _ _).alloc _).alloc _⟩
  obtain ⟨⟨c0, c1, c2⟩, f1, f2⟩ := h.facts
  go_enter Try.func24, Try.ntmps24
  go_upto_block 0 with (first
    | (go_at_call 38; (with_reducible refine (kS _ L1.sr).mono ?_); rintro e w4 ⟨rfl, h4, hA4⟩; have L4 := L1.scan h4 hA4; obtain ⟨_, f1, f2, f3, f4, f5, f6⟩ := L4.rw_.facts; have L5 := L4.put 1 (.string V1) (Blk.set_ L4.rw_ 1 (.string V1))))
  clear kS
  generalize hW5 : w4.setCell ⟨w.heap.size + 1, 1, none⟩ (.string V1) = W5 at L5 ⊢
  clear hW5 L4 L1 hA4 h4 f1 f2 f3 f4 f5 f6 c0 c1 c2
  go_cut [] from 16 to 56 (fun wx => ∃ tv, RLX w wx g w.heap.size (w.heap.size + 1) s a2 n2 V1 a tv tags (.slice none 0 0) [] false ⟨#[]⟩ 0)
  case first =>
    go_wp2_with fail
    go_loopw [16] (fun _ wr => ∃ (p f : Nat) (np : Bool) (acc : List MTag) (tv : Value), p ≤ s.size ∧ s.size < f + p ∧ acc.length ≤ p ∧ RLX w wr g w.heap.size (w.heap.size + 1) s p np V1 a tv acc (.slice none 0 0) [] false ⟨#[]⟩ 0 ∧ Hid (tagsS s.data.toList f p np acc = (tags, a2, n2))) (fun _ wr => s.size - atOf wr g)
    case atStart => exact ⟨a1, _, n1, [], _, by omega, by (have := HL.out; omega), by simp, L5, H2⟩
    case round =>
      clear L5
      obtain ⟨p, f, np, acc, tv, hp, hf, hacc, hX, HT⟩ := hrel
      obtain ⟨f, rfl⟩ : ∃ f', f = f' + 1 := ⟨f - 1, by omega⟩
      obtain ⟨⟨c0, c1, c2⟩, f1, f2⟩ := hX.sr.facts
      have hT := HT.out
      rw [tagsS_step] at hT
      cases np
      case true =>
        simp only [isB_no, Bool.false_eq_true, if_false] at hT
        obtain ⟨rfl, rfl, rfl⟩ : acc = tags ∧ p = a2 ∧ true = n2 := by injection hT with e1 e2; injection e2 with e3 e4; exact ⟨e1, e3, e4⟩
        clear hT HT
        go_wp2_with fail
        go_meet
        exact ⟨_, hX⟩
      case false =>
        rw [isB_next (by decide)] at hT
        have kN := fun W h => next_any g s p false W h hs2 hp
        have hlt := nextB (p := p) HL.out (show (44 : Int) ≠ 0 by decide)
        have hat := hX.sr.atOf
        generalize bt s.data.toList p = C at kN hT hlt
        cases hq : (C == 44)
        case false =>
          simp only [hq, Bool.false_eq_true, if_false] at hT
          obtain ⟨rfl, rfl, rfl⟩ : acc = tags ∧ p = a2 ∧ false = n2 := by injection hT with e1 e2; injection e2 with e3 e4; exact ⟨e1, e3, e4⟩
          clear hT HT
          go_wp2_with (go_at_call 39; refine (kN _ hX.sr).mono ?_; rintro e w1 ⟨rfl, q1, rfl⟩; have L1 := hX.drewN q1)
          go_meet
          exact ⟨_, L1⟩
        case true =>
          simp only [hq, if_true] at hT
          obtain ⟨Tk, b1, m1, e1⟩ : ∃ Tk b1 m1, sgn s.data.toList inK false (p + 1) false = (Tk, b1, m1) := ⟨_, _, _, rfl⟩
          obtain ⟨b2, m2, e2⟩ : ∃ b2 m2, wordS s.data.toList [61] b1 m1 = (b2, m2) := ⟨_, _, rfl⟩
          obtain ⟨Tv, b3, m3, e3⟩ : ∃ Tv b3 m3, sgn s.data.toList inK true b2 m2 = (Tv, b3, m3) := ⟨_, _, _, rfl⟩
          rw [tag_cut e1 e2 e3] at hT
          dsimp only at hT
          have hlt := hlt (by simpa using hq)
          have hb1 := sgn_le s.data.toList inK false (p + 1) false (by rw [HL.out]; omega)
          rw [e1, HL.out] at hb1
          have hb2 := wordS_le s.data.toList [61] b1 m1 (by rw [HL.out]; exact hb1.2.1)
          rw [e2, HL.out] at hb2
          have hb3 := sgn_le s.data.toList inK true b2 m2 (by rw [HL.out]; exact hb2.2)
          rw [e3, HL.out] at hb3
          simp only at hb1 hb2 hb3
          have k1 := fun W h => signs20_any g s ⟨#[44, 32, 61]⟩ false false (p + 1) false Tk b1 m1 W h (by omega) hs (by decide) (by decide) (fun h => by cases h) e1
          have k2 := fun W h => lit_any g s ⟨#[61]⟩ b1 m1 b2 m2 W h hb1.2.1 hs (by decide) e2
          have k3 := fun W h => signs20_any g s ⟨#[44, 32, 61]⟩ true false b2 m2 Tv b3 m3 W h hb2.2 hs (by decide) (by decide) (fun h => by cases h) e3
          clear e1 e2 e3 HT
          generalize mkS Tk = Vk at k1 hT
          generalize mkS Tv = Vv at k3 hT
          obtain ⟨p1, hp1⟩ : ∃ p1, p1 = p + 1 := ⟨_, rfl⟩
          rw [← hp1] at k1 hT
          have HT2 := Lib.hid hT
          clear hT
          go_upto_region 5 with (go_at_call 39; refine (kN _ hX.sr).mono ?_; rintro e w1 ⟨rfl, q1, rfl⟩; have L1 := hX.drewN q1; obtain ⟨⟨d0, d1, d2⟩, g1, g2⟩ := L1.sr.facts)
          have L2 := L1.at1
          rw [← hp1] at L2
          have hp2 : p1 ≤ p + 1 ∧ p + 1 ≤ p1 := by omega
          clear hp1
          generalize hW2 : (wr.drewN q1).setCell _ _ = W2 at L2 ⊢
          clear hW2 L1 d0 d1 d2 g1 g2 c0 c1 c2 f1 f2 kN
          obtain ⟨⟨d0, d1, d2⟩, g1, g2⟩ := L2.sr.facts
          have hql := L2.rs.lt
          have hxl := L2.rw_.lt
          have L3 := RTX.new L2 p1 hql hxl
          have hut : Try.prog.underlying 41 = some (.slice 46) := by kernel_rfl
          go_upto_region 10 with (first
            | (go_at_call 38; (with_reducible refine (k1 _ L3.l.sr).mono ?_); rintro e w4 ⟨rfl, h4, hA4⟩; have L4 := L3.scan h4 hA4; obtain ⟨_, x0, x1, x2, x3⟩ := L4.tt.facts; have L5 := L4.name Vk)
            | (go_at_call 40; (with_reducible refine (k2 _ L5.l.sr).mono ?_); rintro e w6 ⟨rfl, h6, hA6⟩; have L6 := L5.scan h6 hA6; obtain ⟨⟨_, y1, _⟩, _⟩ := L6.l.sr.facts; obtain ⟨_, x0, x1, x2, x3⟩ := L6.tt.facts; have L7 := L6.pos_ b2)
            | (go_at_call 38; (with_reducible refine (k3 _ L7.l.sr).mono ?_); rintro e w8 ⟨rfl, h8, hA8⟩; have L8 := L7.scan h8 hA8; obtain ⟨_, x0, x1, x2, x3⟩ := L8.tt.facts; have L9 := L8.val Vv))
          generalize hW9 : w8.setCell _ _ = W9 at L9 ⊢
          clear hW9 L8 L7 L6 L5 L4 L3 k1 k2 k3 x0 x1 x2 x3 d0 d1 d2 g1 g2 y1 h4 h6 h8 hA4 hA6 hA8
          obtain ⟨⟨z0, z1, z2, z3⟩, _⟩ := L9.tt.facts
          obtain ⟨⟨_, _, _, v3, _⟩, _, r3, _⟩ := L9.l.rw_.facts
          go_wp2_with (at_builtin; go_loud (refine wpList_append_lies _ (by rfl) _ _ _ (by rfl) w.heap.size 46 i0 _ 4 48 hut hi0 hz0 hz1 hz2 rfl (by omega) tv acc.length (acc.flatMap tagCell) (by rfl) (L9.l.tg.alloc _) ⟨W9.heap.size, 0, none⟩ 1 1 (tagCell ⟨Vk, Vv, p1, b2⟩) (by rfl) (by rfl) (World.news_of_block (heap_alloc_new W9 _)) (by simp [tagCell, Value.oneCell']) (by omega) (by simp [maxLen]; omega) (by omega) (by have := L9.l.aw.size; simp; omega) (W9.heap.size + 1) (by simp) ?_); intro gg capg w9 hown9 hgrow hat9 hlt9; obtain ⟨_, _, r4, _⟩ := Rw.facts (Blk.grown (w := _) (Blk.alloc L9.l.rw_ _) hgrow (fun e => own_blk_ne L9.l.tg L9.l.rw_ (by decide) e.symm)); have L10 := L9.l.tags_ (((Aw.refl _ _).alloc _).grown hgrow (fun k hk => .inl (by simp [hk]))) hown9)
          exact ⟨⟨b3, f, m3, acc ++ [⟨Vk, Vv, p1, b2⟩], _, hb3.2.1, by omega, by simp; omega, L10, HT2⟩, by rw [L10.sr.atOf, hat]; omega⟩
  case rest =>
    obtain ⟨tv, hY⟩ := hcut
    clear L5 H2
    go_upto_block 2 with (go_at_call 40; (with_reducible refine (kW _ hY.sr).mono ?_); rintro e w6 ⟨rfl, h6, hA6⟩; have L6 := hY.scan h6 hA6)
    clear hY kW h6 hA6
    go_cut [] from 59 to 105 (fun wx => ∃ fv accF, RLX w wx g w.heap.size (w.heap.size + 1) s a4 n4 V1 a tv tags fv accF false ⟨#[]⟩ 0 ∧ (n4 = false → accF = flds))
    case first =>
      go_wp2_with fail
      go_loopw [59] (fun _ wr => ∃ (p f : Nat) (np : Bool) (acc : List MField) (fv : Value), p ≤ s.size ∧ s.size < f + p ∧ acc.length ≤ p ∧ RLX w wr g w.heap.size (w.heap.size + 1) s p np V1 a tv tags fv acc false ⟨#[]⟩ 0 ∧ Hid (FldR s.data.toList f p np acc (flds, a4, n4))) (fun _ wr => s.size - atOf wr g)
      case atStart => exact ⟨a3, _, n3, [], _, by omega, by (have := HL.out; omega), by simp, L6, H4⟩
      case round =>
        clear L6
        obtain ⟨p, f, np, acc, fv, hp, hf, hacc, hX, HT⟩ := hrel
        obtain ⟨f, rfl⟩ : ∃ f', f = f' + 1 := ⟨f - 1, by omega⟩
        obtain ⟨⟨c0, c1, c2⟩, f1, f2⟩ := hX.sr.facts
        cases np
        case true =>
          obtain ⟨rfl, rfl⟩ : a4 = p ∧ n4 = true := by
            rcases HT.out with ⟨h1, _⟩ | ⟨_, h2⟩
            · cases h1
            · injection h2 with e1 e2; exact ⟨e1, e2⟩
          clear HT
          go_wp2_with fail
          go_meet
          exact ⟨_, _, hX, fun e => by cases e⟩
        case false =>
          have hT : fieldsS s.data.toList (f + 1) p false acc = (flds, a4, n4) := by
            rcases HT.out with ⟨_, h2⟩ | ⟨h1, _⟩
            · exact h2
            · cases h1
          clear HT
          rw [fieldsS_step] at hT
          have hat := hX.sr.atOf
          obtain ⟨Tk, b1, m1, e1⟩ : ∃ Tk b1 m1, sgn s.data.toList inK false p false = (Tk, b1, m1) := ⟨_, _, _, rfl⟩
          obtain ⟨b2, m2, e2⟩ : ∃ b2 m2, wordS s.data.toList [61] b1 m1 = (b2, m2) := ⟨_, _, rfl⟩
          have hb1 := sgn_le s.data.toList inK false p false (by rw [HL.out]; omega)
          rw [e1, HL.out] at hb1
          have hb2 := wordS_le s.data.toList [61] b1 m1 (by rw [HL.out]; exact hb1.2.1)
          rw [e2, HL.out] at hb2
          simp only at hb1 hb2
          have k1 := fun W h => signs20_any g s ⟨#[44, 32, 61]⟩ false false p false Tk b1 m1 W h (by omega) hs (by decide) (by decide) (fun h => by cases h) e1
          have k2 := fun W h => lit_any g s ⟨#[61]⟩ b1 m1 b2 m2 W h hb1.2.1 hs (by decide) e2
          obtain ⟨Vk, hVk⟩ : ∃ Vk, mkS Tk = Vk := ⟨_, rfl⟩
          rw [hVk] at k1
          cases m2
          case true =>
            rw [field_stop e1 e2] at hT
            simp only [isB_no, Bool.false_eq_true, if_false] at hT
            obtain ⟨_, rfl, rfl⟩ : True ∧ b2 = a4 ∧ true = n4 := by injection hT with e1 e2; injection e2 with e3 e4; exact ⟨trivial, e3, e4⟩
            clear hT e1 e2 hVk
            go_wp2_with (first
              | (go_at_call 38; (with_reducible refine (k1 _ hX.sr).mono ?_); rintro e w4 ⟨rfl, h4, hA4⟩; have L4 := hX.scan h4 hA4)
              | (go_at_call 40; (with_reducible refine (k2 _ L4.sr).mono ?_); rintro e w6 ⟨rfl, h6, hA6⟩; have L6 := L4.scan h6 hA6; obtain ⟨⟨y0, y1, y2⟩, _⟩ := L6.sr.facts))
            go_meet
            exact ⟨_, _, L6, fun e => by cases e⟩
          case false =>
            obtain ⟨kd, v, pp, b3, m3, e3⟩ : ∃ kd v pp b3 m3, toldS s.data.toList b2 false = ((kd, v, pp), b3, m3) := ⟨_, _, _, _, _, rfl⟩
            rw [field_cut e1 e2 e3, hVk] at hT
            dsimp only at hT
            have hb3 := toldS_le (l := s.data.toList) false (show b2 ≤ s.data.toList.length by rw [HL.out]; omega)
            rw [e3, HL.out] at hb3
            simp only at hb3
            have hf4 : p < b1 := by
              cases hm : m1
              · have := sgn_lt (l := s.data.toList) (m := inK) (wide := false) (a := p) (by rw [HL.out]; omega)
                rw [e1] at this
                exact this hm
              · rw [hm, wordS_no] at e2; injection e2 with _ e; cases e
            have k3 := fun W h => value_any g s b2 kd v pp b3 m3 W h hb2.2 hs e3
            have HT := Lib.hid hT
            clear hT e1 e2 e3 hVk
            have huf : Try.prog.underlying 42 = some (.slice 48) := by kernel_rfl
            go_upto_region 17 with (first
              | (go_at_call 38; (with_reducible refine (k1 _ hX.sr).mono ?_); rintro e w4 ⟨rfl, h4, hA4⟩; have L4 := hX.scan h4 hA4)
              | (go_at_call 40; (with_reducible refine (k2 _ L4.sr).mono ?_); rintro e w6 ⟨rfl, h6, hA6⟩; have L6 := L4.scan h6 hA6; obtain ⟨⟨y0, y1, y2⟩, _⟩ := L6.sr.facts))
            clear k1 k2 hX L4 h4 hA4 h6 hA6 c0 c1 c2 f1 f2
            go_upto_region 18 with (go_at_call 41; refine (k3 _ L6.sr).mono ?_; rintro e w7 ⟨⟨V, P, K, rfl, hv⟩, h7, hA7⟩; have L7 := L6.scan h7 hA7; have hql := L7.rs.lt; have hxl := L7.rw_.lt; have L9 := RFX.new L7 Vk V p P K hql hxl)
            have HV2 := Lib.hid hv
            clear hv
            go_upto_region 19 with fail
            generalize hW9 : w7.alloc _ = W9 at L9 ⊢
            clear hW9 L7 L6 h7 hA7 k3 y0 y1 y2
            obtain ⟨⟨z0, z1, z2, z3, z4⟩, _⟩ := L9.ff.facts
            obtain ⟨⟨_, _, _, _, v4, _⟩, _, _, r4, _⟩ := L9.l.rw_.facts
            go_upto_region 20 with (at_builtin; go_loud (refine wpList_append_lies _ (by rfl) _ _ _ (by rfl) w.heap.size 48 i1 _ 5 56 huf hi1 iz0 iz1 iz2 rfl (by omega) fv acc.length (acc.flatMap fieldCell) (by rfl) (L9.l.fl.alloc _) ⟨W9.heap.size, 0, none⟩ 1 1 (fieldCell ⟨Vk, V, p, P, K⟩) (by rfl) (by rfl) (World.news_of_block (heap_alloc_new W9 _)) (by simp [fieldCell, Value.oneCell']) (by omega) (by simp [maxLen]; omega) (by omega) (by have := L9.l.aw.size; simp; omega) (W9.heap.size + 1) (by simp) ?_); intro gg capg w9 hown9 hgrow hat9 hlt9; obtain ⟨_, _, _, r5, _⟩ := Rw.facts (Blk.grown (w := _) (Blk.alloc L9.l.rw_ _) hgrow (fun e => own_blk_ne L9.l.fl L9.l.rw_ (by decide) e.symm)); have L10 := L9.l.flds_ (((Aw.refl _ _).alloc _).grown hgrow (fun k hk => .inl (by simp [hk]))) hown9)
            generalize hW10 : World.setCell _ _ _ = W10 at L10 ⊢
            clear hW10 L9 hown9 hgrow hat9 hlt9 r5 z0 z1 z2 z3 z4 v4 r4
            obtain ⟨⟨y0, y1, y2⟩, j1, j2⟩ := L10.sr.facts
            have kN := fun W h => next_any g s b3 m3 W h hs2 hb3.2
            cases m3
            case true =>
              have hT := HT.out
              simp only [isB_no, Bool.false_eq_true, if_false] at hT
              obtain ⟨_, rfl, rfl⟩ : True ∧ b3 = a4 ∧ true = n4 := by injection hT with e1 e2; injection e2 with e3 e4; exact ⟨trivial, e3, e4⟩
              clear hT HT
              go_wp2_with fail
              go_meet
              exact ⟨_, _, L10, fun e => by cases e⟩
            case false =>
              obtain ⟨hV1, hP1, hK1⟩ := HV2.out rfl
              have hT := HT.out
              rw [isB_next (by decide), ← hV1, ← hP1, ← hK1] at hT
              have hlt := nextB (p := b3) HL.out (show (44 : Int) ≠ 0 by decide)
              clear HT HV2 hV1 hP1 hK1
              generalize bt s.data.toList b3 = C at kN hT hlt
              cases hq : (C == 44)
              case false =>
                have hq2 : (C != 44) = true := by rw [bne, hq]; rfl
                simp only [hq, Bool.false_eq_true, if_false] at hT
                obtain ⟨hfl, rfl, rfl⟩ : acc ++ [⟨Vk, V, p, P, K⟩] = flds ∧ b3 = a4 ∧ false = n4 := by injection hT with e1 e2; injection e2 with e3 e4; exact ⟨e1, e3, e4⟩
                have HF := Lib.hid hfl
                clear hT hfl
                go_wp2_with (go_at_call 39; refine (kN _ L10.sr).mono ?_; rintro e w1 ⟨rfl, q1, rfl⟩; have L11 := L10.drewN q1)
                go_meet
                exact ⟨_, _, L11, fun _ => HF.out⟩
              case true =>
                have hq2 : (C != 44) = false := by rw [bne, hq]; rfl
                simp only [hq, if_true] at hT
                have hlt := hlt (by simpa using hq)
                have HT := Lib.hid hT
                clear hT
                go_wp2_with (go_at_call 39; refine (kN _ L10.sr).mono ?_; rintro e w1 ⟨rfl, q1, rfl⟩; have L11 := L10.drewN q1; obtain ⟨⟨t0, t1, t2⟩, o1, o2⟩ := L11.sr.facts; have L12 := L11.at1)
                exact ⟨⟨b3 + 1, f, false, acc ++ [⟨Vk, V, p, P, K⟩], _, by omega, by omega, by simp; omega, L12, Lib.hid (.inl ⟨rfl, HT.out⟩)⟩, by rw [L12.sr.atOf, hat]; omega⟩
    case rest =>
      obtain ⟨fv, accF, hZ, hfl⟩ := hcut
      have HFL := Lib.hid hfl
      clear L6 H4 hfl
      obtain ⟨tA, tc, rfl⟩ := own_form hZ.tg
      obtain ⟨fA, fc, rfl⟩ := own_form hZ.fl
      obtain ⟨⟨c0, c1, c2⟩, f1, f2⟩ := hZ.sr.facts
      cases n4
      case true =>
        have hR := HR.out
        simp only [isB_no, Bool.false_eq_true, if_false, wordS_no] at hR
        obtain ⟨rfl, rfl⟩ : a4 = a' ∧ true = no' := by injection hR with e1 e2; injection e2 with e3 e4; exact ⟨e3, e4⟩
        have kW := fun W h => lit_any g s ⟨#[10]⟩ a4 true a4 true W h hl4.2 hs (by decide) (wordS_no _ _ _)
        clear hR HR
        go_wp2_with (go_at_call 40; refine (kW _ hZ.sr).mono ?_; rintro e w6 ⟨rfl, h6, hA6⟩; have LZ := hZ.scan h6 hA6; obtain ⟨⟨d0, d1, d2, d3, d4, d5, d6, d7, d8, d9⟩, _⟩ := LZ.rw_.facts; obtain ⟨⟨e0, e1, e2, e3, e4, e5, e6, e7, e8, e9⟩, v1, v3, v4, v7, v8, v9⟩ := LZ.rs.facts; obtain ⟨v0, v2, v5, v6⟩ := Rw.froz LZ.rs)
        refine bodyPost_ret (v := .agg #[.int .i64 0, .string V1, .int .i64 (a : Int), .slice tA tags.length tc, .slice fA accF.length fc, .string ⟨#[]⟩, .int .i64 0, .bool false, .string ⟨#[]⟩, .int .i64 ((0 : Nat) : Int)]) (by simp [results, Try.results24, go_sem, e0, e1, e2, e3, e4, e5, e6, e7, e8, e9]) rfl (LZ.fin ?_ (fun e => by cases e))
        exact Aw.ten rfl rfl rfl rfl rfl rfl rfl rfl rfl rfl
      case false =>
        have hR := HR.out
        rw [isB_next (by decide)] at hR
        have kN := fun W h => next_any g s a4 false W h hs2 hl4.2
        have hlt := nextB (p := a4) HL.out (show (32 : Int) ≠ 0 by decide)
        clear HR
        generalize bt s.data.toList a4 = C at kN hR hlt
        cases hq : (C == 32)
        case false =>
          simp only [hq, Bool.false_eq_true, if_false] at hR
          obtain ⟨hRow, hW⟩ : _ ∧ wordS s.data.toList [10] a4 false = (a', no') := by injection hR with e1 e2; exact ⟨e1, e2⟩
          have HRow := Lib.hid hRow
          have kW := fun W h => lit_any g s ⟨#[10]⟩ a4 false a' no' W h hl4.2 hs (by decide) hW
          clear hR hW hRow
          go_wp2_with (first
            | (go_at_call 39; (with_reducible refine (kN _ hZ.sr).mono ?_); rintro e w1 ⟨rfl, q1, rfl⟩; have L1 := hZ.drewN q1)
            | (go_at_call 40; (with_reducible refine (kW _ L1.sr).mono ?_); rintro e w6 ⟨rfl, h6, hA6⟩; have LZ := L1.scan h6 hA6; obtain ⟨⟨d0, d1, d2, d3, d4, d5, d6, d7, d8, d9⟩, _⟩ := LZ.rw_.facts; obtain ⟨⟨e0, e1, e2, e3, e4, e5, e6, e7, e8, e9⟩, v1, v3, v4, v7, v8, v9⟩ := LZ.rs.facts; obtain ⟨v0, v2, v5, v6⟩ := Rw.froz LZ.rs))
          refine bodyPost_ret (v := .agg #[.int .i64 0, .string V1, .int .i64 (a : Int), .slice tA tags.length tc, .slice fA accF.length fc, .string ⟨#[]⟩, .int .i64 0, .bool false, .string ⟨#[]⟩, .int .i64 ((0 : Nat) : Int)]) (by simp [results, Try.results24, go_sem, e0, e1, e2, e3, e4, e5, e6, e7, e8, e9]) rfl (LZ.fin ?_ (fun _ => by rw [← HRow.out, HV.out, HFL.out (by trivial)]; rfl))
          exact Aw.ten rfl rfl rfl rfl rfl rfl rfl rfl rfl rfl
        case true =>
          simp only [hq, if_true] at hR
          have hlt := hlt (by simpa using hq)
          obtain ⟨b, nb, hm⟩ : ∃ b nb, numS s.data.toList (a4 + 1) false = (b, nb) := ⟨_, _, rfl⟩
          have hle := numS_le s.data.toList (a4 + 1) false (by rw [HL.out]; omega)
          rw [hm] at hR
          rw [hm, HL.out] at hle
          dsimp only at hR hle
          obtain ⟨hRow, hW⟩ : _ ∧ wordS s.data.toList [10] b nb = (a', no') := by injection hR with e1 e2; exact ⟨e1, e2⟩
          have kM := fun W h => number_ref g s (a4 + 1) false b nb W h (by omega) hs hm
          have kW := fun W h => lit_any g s ⟨#[10]⟩ b nb a' no' W h hle.2 hs (by decide) hW
          generalize mkS (cutL s.data.toList (a4 + 1) b) = VT at kM hRow
          obtain ⟨p1, hp1⟩ : ∃ p1, p1 = a4 + 1 := ⟨_, rfl⟩
          rw [← hp1] at kM hRow
          have HRow := Lib.hid hRow
          clear hR hW hRow hm hle
          go_upto_region 24 with (go_at_call 39; (with_reducible refine (kN _ hZ.sr).mono ?_); rintro e w1 ⟨rfl, q1, rfl⟩; have L1 := hZ.drewN q1; obtain ⟨⟨t0, t1, t2⟩, o1, o2⟩ := L1.sr.facts; have L2 := L1.at1)
          rw [← hp1] at L2
          clear hp1
          generalize hW2 : (wc.drewN q1).setCell _ _ = W2 at L2 ⊢
          clear hW2 L1 t0 t1 t2 o1 o2 c0 c1 c2 f1 f2 kN
          obtain ⟨⟨t0, t1, t2⟩, o1, o2⟩ := L2.sr.facts
          obtain ⟨_, r1, r3, r4, r7, r8, r9⟩ := L2.rw_.facts
          go_cut [] from 123 to 128 (fun wx => RLX w wx g w.heap.size (w.heap.size + 1) s p1 false V1 a (.slice tA tags.length tc) tags (.slice fA accF.length fc) accF true ⟨#[]⟩ p1)
          case first =>
            go_region
            all_goals
              go_wp2_with fail
              go_meet
              first
                | exact ((L2.drew.put 7 (.bool true) (Blk.set_ L2.drew.rw_ 7 (.bool true))).put 9 (.int .i64 (p1 : Int)) (Blk.set_ (Blk.set_ L2.drew.rw_ 7 (.bool true)) 9 (.int .i64 (p1 : Int))))
                | exact ((L2.put 7 (.bool true) (Blk.set_ L2.rw_ 7 (.bool true))).put 9 (.int .i64 (p1 : Int)) (Blk.set_ (Blk.set_ L2.rw_ 7 (.bool true)) 9 (.int .i64 (p1 : Int))))
                | exact ((L2.drew.put 9 (.int .i64 (p1 : Int)) (Blk.set_ L2.drew.rw_ 9 (.int .i64 (p1 : Int)))).put 7 (.bool true) (Blk.set_ (Blk.set_ L2.drew.rw_ 9 (.int .i64 (p1 : Int))) 7 (.bool true)))
                | exact ((L2.put 9 (.int .i64 (p1 : Int)) (Blk.set_ L2.rw_ 9 (.int .i64 (p1 : Int)))).put 7 (.bool true) (Blk.set_ (Blk.set_ L2.rw_ 9 (.int .i64 (p1 : Int))) 7 (.bool true)))
          case rest =>
            go_wp2_with (first
              | (go_at_call 42; (with_reducible refine (kM _ hcut.sr).mono ?_); rintro e w4 ⟨rfl, h4, hA4⟩; have L4 := hcut.scan h4 hA4; obtain ⟨_, _, _, _, _, r8, _⟩ := L4.rw_.facts; have L5 := L4.put 8 (.string VT) (Blk.set_ L4.rw_ 8 (.string VT)))
              | (go_at_call 40; (with_reducible refine (kW _ L5.sr).mono ?_); rintro e w6 ⟨rfl, h6, hA6⟩; have LZ := L5.scan h6 hA6; obtain ⟨⟨d0, d1, d2, d3, d4, d5, d6, d7, d8, d9⟩, _⟩ := LZ.rw_.facts; obtain ⟨⟨e0, e1, e2, e3, e4, e5, e6, e7, e8, e9⟩, v1, v3, v4, v7, v8, v9⟩ := LZ.rs.facts; obtain ⟨v0, v2, v5, v6⟩ := Rw.froz LZ.rs))
            refine bodyPost_ret (v := .agg #[.int .i64 0, .string V1, .int .i64 (a : Int), .slice tA tags.length tc, .slice fA accF.length fc, .string ⟨#[]⟩, .int .i64 0, .bool true, .string VT, .int .i64 (p1 : Int)]) (by simp [results, Try.results24, go_sem, e0, e1, e2, e3, e4, e5, e6, e7, e8, e9]) rfl (LZ.fin ?_ (fun _ => by rw [← HRow.out, HV.out, HFL.out (by trivial)]; rfl))
            exact Aw.ten rfl rfl rfl rfl rfl rfl rfl rfl rfl rfl
end Go.Proofs.Ytdngieihlcknmaa
