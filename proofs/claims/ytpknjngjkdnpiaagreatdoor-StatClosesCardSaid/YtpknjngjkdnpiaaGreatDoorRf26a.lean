/- The walk of the counting format's reference: tags. -/
import Derived.Test.YtpknjngjkdnpiaaGreatDoorRefQ
import Derived.Test.YtpknjngjkdnpiaaGreatDoorStatDfa
import Derived.Test.YtpknjngjkdnpiaaGreatDoorScanF
namespace Go.Proofs.YtpknjngjkdnpiaaGreatDoor
set_option linter.unusedVariables false
set_option linter.unusedSimpArgs false
open Go.RowKit
theorem run_name26 (g : Nat) (s : ByteArray) (a : Nat) (no : Bool) (b' : Nat) (n' : Bool) (w : World) (h : Sr w g s a no) (ha : a ≤ s.size) (hs : s.size ≤ 1048576) (hR : someS s.data.toList stName a no = (b', n')) :
    Calls Tryz.prog 40 #[.pointer (some ⟨g, 0, none⟩), .int .i64 5, .string ⟨#[]⟩, .bool false] w fun e w' => e = .returned (.string (mkS (cutL s.data.toList a b'))) ∧ Sr w' g s b' n' ∧ Aw [g] w w' := by
  have k := run_cls 5 ⟨#[]⟩ stName stName stName_dot (by decide) in5_any g s a no b' n' w h ha hs hR
  rw [ext_cut] at k
  exact k
theorem run_ink26 (g : Nat) (s : ByteArray) (a : Nat) (no : Bool) (b' : Nat) (n' : Bool) (w : World) (h : Sr w g s a no) (ha : a ≤ s.size) (hs : s.size ≤ 1048576) (hR : someS s.data.toList stInk a no = (b', n')) :
    Calls Tryz.prog 40 #[.pointer (some ⟨g, 0, none⟩), .int .i64 6, .string ⟨#[124]⟩, .bool false] w fun e w' => e = .returned (.string (mkS (cutL s.data.toList a b'))) ∧ Sr w' g s b' n' ∧ Aw [g] w w' := by
  have k := run_cls 6 ⟨#[124]⟩ stInk visB stInk_vis (by decide) in6_any g s a no b' n' w h ha hs hR
  rw [ext_cut] at k
  exact k
theorem run_value26 (g : Nat) (s : ByteArray) (a : Nat) (no : Bool) (b' : Nat) (n' : Bool) (w : World) (h : Sr w g s a no) (ha : a ≤ s.size) (hs : s.size ≤ 1048576) (hR : someS s.data.toList stValue a no = (b', n')) :
    Calls Tryz.prog 40 #[.pointer (some ⟨g, 0, none⟩), .int .i64 6, .string ⟨#[44, 124]⟩, .bool false] w fun e w' => e = .returned (.string (mkS (cutL s.data.toList a b'))) ∧ Sr w' g s b' n' ∧ Aw [g] w w' := by
  have k := run_cls 6 ⟨#[44, 124]⟩ stValue visB stValue_vis (by decide) in6_any g s a no b' n' w h ha hs hR
  rw [ext_cut] at k
  exact k
theorem stag_cut {l : List UInt8} {a b1 b2 b3 : Nat} {no m1 m2 m3 : Bool} (h1 : someS l stName a no = (b1, m1)) (h2 : wordS l [58] b1 m1 = (b2, m2)) (h3 : someS l stValue b2 m2 = (b3, m3)) : sTagS l a no = (⟨mkS (cutL l a b1), mkS (cutL l b2 b3), a, b2⟩, b3, m3) := by
  unfold sTagS; simp only [h1, h2, h3]
set_option maxRecDepth 100000 in
set_option maxHeartbeats 6400000 in
theorem tags26_any (g x : Nat) (s : ByteArray) (a : Nat) (no : Bool) (T : List MTag) (a' : Nat) (no' : Bool) (K : Nat) (nm : ByteArray) (off : Nat) (text : ByteArray) (pos : Nat) (timed : Bool) (time : ByteArray) (wh : Nat) (wb w : World) (h : QX wb w g x s a no K nm off (.slice none 0 0) [] text pos timed time wh) (ha : a ≤ s.size) (hs : s.size ≤ 1048576) (hR : sTagsGo s.data.toList (s.data.toList.length + 1) a no [] = (T, a', no')) :
    Calls Tryz.prog 44 #[.pointer (some ⟨g, 0, none⟩), .pointer (some ⟨x, 0, none⟩)] w fun e w' => e = .returned (.tuple #[]) ∧ ∃ tv tags, QX wb w' g x s a' no' K nm off tv tags text pos timed time wh ∧ (no' = false → tags = T) := by
  have hL : s.data.toList.length = s.size := by simp
  have HL := Lib.hid hL
  have hs2 : s.size ≤ 4611686018427387904 := Nat.le_trans hs (by decide)
  obtain ⟨⟨c0, c1, c2⟩, f1, f2⟩ := h.sr.facts
  cases no
  case true =>
    have h2 := sTagsGo_no (l := s.data.toList) a [] (s.data.toList.length + 1)
    rw [hR] at h2
    obtain ⟨rfl, rfl⟩ : a' = a ∧ no' = true := by injection h2 with e1 e2; exact ⟨e1, e2⟩
    clear hR h2
    go_enter Tryz.func44, Tryz.ntmps44
    go_wp2_with fail
    refine wp_loop_rounds 1 ?_
    rw [rounds_succ]
    go_wp2_with fail
    go_end0
    exact ⟨rfl, _, _, h, fun e => by cases e⟩
  case false =>
  have H1 := Lib.hid hR
  obtain ⟨i0, hi0, hz0, hz1, hz2⟩ := info_parts Tryz.infoTag
  have hut : Tryz.prog.underlying 71 = some (.slice 78) := by kernel_rfl
  clear hR hL
  go_enter Tryz.func44, Tryz.ntmps44
  go_wp2_with fail
  go_loopw [4] (fun _ wr => ∃ (p f : Nat) (acc : List MTag) (tv : Value), p ≤ s.size ∧ s.size < f + p ∧ acc.length ≤ p ∧ QX wb wr g x s p false K nm off tv acc text pos timed time wh ∧ Hid (sTagsGo s.data.toList f p false acc = (T, a', no'))) (fun _ wr => s.size - atOf wr g)
  case atStart => exact ⟨a, _, [], _, by omega, by (have := HL.out; omega), by simp, h, H1⟩
  case round =>
    clear h H1 c0 c1 c2 f1 f2
    obtain ⟨p, f, acc, tv, hp, hf, hacc, hX, HT⟩ := hrel
    obtain ⟨f, rfl⟩ : ∃ f', f = f' + 1 := ⟨f - 1, by omega⟩
    obtain ⟨⟨c0, c1, c2⟩, f1, f2⟩ := hX.sr.facts
    have hat := hX.sr.atOf
    have hT := HT.out
    rw [sTagsGo] at hT
    obtain ⟨b1, m1, e1⟩ : ∃ b1 m1, someS s.data.toList stName p false = (b1, m1) := ⟨_, _, rfl⟩
    obtain ⟨b2, m2, e2⟩ : ∃ b2 m2, wordS s.data.toList [58] b1 m1 = (b2, m2) := ⟨_, _, rfl⟩
    obtain ⟨b3, m3, e3⟩ : ∃ b3 m3, someS s.data.toList stValue b2 m2 = (b3, m3) := ⟨_, _, rfl⟩
    rw [stag_cut e1 e2 e3] at hT
    dsimp only at hT
    have hb1 := someS_le s.data.toList stName p false (by rw [HL.out]; omega)
    rw [e1, HL.out] at hb1
    have hb2 := wordS_le s.data.toList [58] b1 m1 (by rw [HL.out]; exact hb1.2)
    rw [e2, HL.out] at hb2
    have hb3 := someS_le s.data.toList stValue b2 m2 (by rw [HL.out]; exact hb2.2)
    rw [e3, HL.out] at hb3
    simp only at hb1 hb2 hb3
    have k1 := fun W h => run_name26 g s p false b1 m1 W h hp hs e1
    have k2 := fun W h => lit_any g s ⟨#[58]⟩ b1 m1 b2 m2 W h hb1.2 hs (by decide) e2
    have k3 := fun W h => run_value26 g s b2 m2 b3 m3 W h hb2.2 hs e3
    have kN := fun W h => next_any g s b3 m3 W h hs2 hb3.2
    generalize hVk : mkS (cutL s.data.toList p b1) = Vk at k1 hT
    generalize hVv : mkS (cutL s.data.toList b2 b3) = Vv at k3 hT
    clear e1 e2 e3 hVk hVv HT
    have HT := Lib.hid hT
    clear hT
    have hxl := hX.rw_.lt
    have L3 := QT.new hX p hxl
    go_upto_region 6 with (first
      | (go_at_call 40; (with_reducible refine (k1 _ L3.l.sr).mono ?_); rintro e w4 ⟨rfl, h4, hA4⟩; have L4 := L3.scan h4 hA4; obtain ⟨_, x0, x1, x2, x3⟩ := L4.tt.facts; have L5 := L4.name Vk)
      | (go_at_call 41; (with_reducible refine (k2 _ L5.l.sr).mono ?_); rintro e w6 ⟨rfl, h6, hA6⟩; have L6 := L5.scan h6 hA6; obtain ⟨⟨_, y1, _⟩, _⟩ := L6.l.sr.facts; obtain ⟨_, x0, x1, x2, x3⟩ := L6.tt.facts; have L7 := L6.pos_ b2)
      | (go_at_call 40; (with_reducible refine (k3 _ L7.l.sr).mono ?_); rintro e w8 ⟨rfl, h8, hA8⟩; have L8 := L7.scan h8 hA8; obtain ⟨_, x0, x1, x2, x3⟩ := L8.tt.facts; have L10 := L8.val Vv))
    revert L10
    generalize World.setCell w8 _ _ = w10
    intro L10
    clear L8 L7 L6 L5 L4 L3 k1 k2 k3 x0 x1 x2 x3 y1 h4 h6 h8 hA4 hA6 hA8 c0 c1 c2 f1 f2 hX
    obtain ⟨⟨z0, z1, z2, z3⟩, _⟩ := L10.tt.facts
    obtain ⟨⟨_, _, _, v3, _⟩, _, _, _, r3, _⟩ := L10.l.rw_.facts
    have htg := L10.l.drew.tg
    obtain ⟨_, _, _, _, r4, _⟩ := Rw.facts (Blk.alloc L10.l.drew.rw_ (.cells #[.string Vk, .string Vv, .int .i64 (p : Int), .int .i64 (b2 : Int)] 78))
    obtain ⟨⟨_, _, _, m3', _⟩, _⟩ := Rw.facts (Blk.alloc L10.l.rw_ (.cells #[.string Vk, .string Vv, .int .i64 (p : Int), .int .i64 (b2 : Int)] 78))
    go_region_law (refine step_append_lies _ (by rfl) _ _ _ (by rfl) wb.heap.size 78 i0 _ 4 48 hut hi0 hz0 hz1 hz2 rfl (by omega) tv acc.length (acc.flatMap tagCell) (by rfl) (htg.alloc _) ⟨w10.heap.size, 0, none⟩ 1 1 (tagCell ⟨Vk, Vv, p, b2⟩) (by rfl) (by rfl) (World.news_of_block (heap_alloc_new w10.drew _)) (by simp [tagCell, Value.oneCell']) (by omega) (by simp [maxLen]; omega) (by omega) (by have := L10.l.aw.size; simp; omega) (w10.heap.size + 1) (by simp) ?_; intro gg capg w11 hown11 hgrow hat11 hlt11; obtain ⟨_, _, _, _, r5, _⟩ := Rw.facts (Blk.grown (w := _) (Blk.alloc L10.l.drew.rw_ _) hgrow (fun e => own_blk_ne L10.l.tg L10.l.rw_ (by decide) e.symm)); have L11 := L10.l.drew.tags_ (((Aw.refl _ _).alloc _).grown hgrow (fun k hk => .inl (by simp [hk]))) hown11)
    all_goals
      have L11' := L11
      revert L11'
      generalize World.setCell _ _ _ = W12
      intro L12
      clear L11 hown11 hgrow hat11 hlt11 r3 r4 r5 z0 z1 z2 z3 v3 m3' htg
      obtain ⟨⟨y0, y1, y2⟩, j1, j2⟩ := L12.sr.facts
      cases m3
      case true =>
        have hT := HT.out
        simp only [isB_no, Bool.false_eq_true, if_false] at hT
        obtain ⟨_, rfl, rfl⟩ : True ∧ b3 = a' ∧ true = no' := by injection hT with e1 e2; injection e2 with e3 e4; exact ⟨trivial, e3, e4⟩
        clear hT HT
        go_wp2_with fail
        go_end0
        exact ⟨rfl, _, _, L12, fun e => by cases e⟩
      case false =>
        have hT := HT.out
        rw [isB_nx (by decide)] at hT
        have hlt := nx_lt (p := b3) HL.out (show (44 : Int) ≠ 0 by decide)
        clear HT
        generalize bt s.data.toList b3 = C at kN hT hlt
        cases hq : (C == 44)
        case false =>
          have hq2 : (C != 44) = true := by rw [bne, hq]; rfl
          simp only [hq, Bool.false_eq_true, if_false] at hT
          obtain ⟨hfl, rfl, rfl⟩ : acc ++ [⟨Vk, Vv, p, b2⟩] = T ∧ b3 = a' ∧ false = no' := by injection hT with e1 e2; injection e2 with e3 e4; exact ⟨e1, e3, e4⟩
          have HF := Lib.hid hfl
          clear hT hfl hlt
          go_wp2_with (first
            | (go_at_call 42; (with_reducible refine (kN _ L12.sr).mono ?_); rintro e w13 ⟨rfl, q1, rfl⟩; have L13 := L12.drewN q1))
          go_end0
          have hT2 := HF.out
          first
            | exact ⟨rfl, _, _, L13, fun _ => hT2⟩
            | (rw [← hT2]; exact ⟨rfl, _, L13⟩)
        case true =>
          have hq2 : (C != 44) = false := by rw [bne, hq]; rfl
          simp only [hq, if_true] at hT
          have hlt := hlt (by simpa using hq)
          have HT := Lib.hid hT
          clear hT
          go_wp2_with (go_at_call 42; (with_reducible refine (kN _ L12.sr).mono ?_); rintro e w13 ⟨rfl, q1, rfl⟩; have L13 := L12.drewN q1; obtain ⟨⟨t0, t1, t2⟩, o1, o2⟩ := L13.sr.facts; have L14 := L13.at1)
          exact ⟨⟨b3 + 1, f, acc ++ [⟨Vk, Vv, p, b2⟩], _, by omega, by omega, by simp; omega, L14, HT⟩, by rw [L14.sr.atOf, hat]; omega⟩
end Go.Proofs.YtpknjngjkdnpiaaGreatDoor
