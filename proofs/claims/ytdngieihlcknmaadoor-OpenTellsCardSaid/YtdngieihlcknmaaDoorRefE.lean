/- The walk of the reference's Str: scalars up to a byte. -/
import Derived.Test.YtdngieihlcknmaaDoorRefC
import Derived.Test.YtdngieihlcknmaaDoorLineDef
namespace Go.Proofs.YtdngieihlcknmaaDoor
set_option linter.unusedVariables false
set_option linter.unusedSimpArgs false
open Go.RowKit
theorem hasC17 {m : ByteArray} {c : Int} {q : Bool} (h : hasB m.data.toList c = q) (hm : m.size ≤ 4611686018427387904) (w : World) (n : Nat) : Calls Tryd.prog 48 #[.string m, .int .u8 c] (w.drewN n) fun e w' => e = .returned (.bool q) ∧ w' = w.drewN n := by
  rw [← h]; exact has17_any m c _ hm
theorem hasC17' {m : ByteArray} {c : Int} {q : Bool} (h : hasB m.data.toList c = q) (hm : m.size ≤ 4611686018427387904) (w : World) : Calls Tryd.prog 48 #[.string m, .int .u8 c] w fun e w' => e = .returned (.bool q) ∧ w' = w := by
  rw [← h]; exact has17_any m c _ hm
/-- The loop over scalars: what it says in the end. -/
def StrR (l : List UInt8) (e : Int) (m : List UInt8) (n : Int) (f b : Nat) (nb : Bool) (acc : List UInt8) (R : List UInt8 × Nat × Bool) : Prop :=
  (nb = false ∧ l.length < f + b ∧ inkS l e m n f b acc = R) ∨ (nb = true ∧ R = (acc, b, true))
theorem trip {acc T : List UInt8} {b b' : Nat} {nb n' : Bool} (h : (acc, b, nb) = (T, b', n')) : acc = T ∧ b = b' ∧ nb = n' := by
  injection h with e1 e2; injection e2 with e3 e4; exact ⟨e1, e3, e4⟩
set_option maxRecDepth 100000 in
set_option maxHeartbeats 12800000 in
theorem str_any (g : Nat) (s bad m : ByteArray) (e0 n0 : Int) (a : Nat) (no : Bool) (T : List UInt8) (b' : Nat) (n' : Bool) (w : World) (h : Sr w g s a no) (ha : a ≤ s.size) (hs : s.size ≤ 1048576) (hm : m.size ≤ 1048576) (hbs0 : bad.size ≤ 1048576) (hbad : ∀ c : Int, c ≠ e0 → hasB bad.data.toList c = (c == 10)) (hR : ink s.data.toList e0 m.data.toList n0 a no = (T, b', n')) :
    Calls Tryd.prog 35 #[.pointer (some ⟨g, 0, none⟩), .int .u8 e0, .string bad, .string m, .int .u8 n0] w fun e w' => e = .returned (.string (mkS T)) ∧ Sr w' g s b' n' ∧ Aw [g] w w' := by
  have HL : Hid (s.data.toList.length = s.size) := Lib.hid (by simp)
  have hs2 : s.size ≤ 4611686018427387904 := Nat.le_trans hs (by decide)
  have hm2 : m.size ≤ 4611686018427387904 := Nat.le_trans hm (by decide)
  have hbd2 : bad.size ≤ 4611686018427387904 := Nat.le_trans hbs0 (by decide)
  have HR : Hid (StrR s.data.toList e0 m.data.toList n0 (s.data.toList.length + 1) a no [] (T, b', n')) := Lib.hid (by
    unfold ink at hR
    cases no
    · exact .inl ⟨rfl, by omega, hR⟩
    · exact .inr ⟨rfl, hR.symm⟩)
  have HBAD := Lib.hid hbad
  have hB0 : SB w w g s a no [] (.slice none 0 0) := ⟨h, World.ownsRow_nil _ _ _ _, Aw.refl _ _, h.lt⟩
  have hu : Tryd.prog.underlying 82 = some (.slice 5) := by kernel_rfl
  have hus : Tryd.prog.underlying 9 = some .string := by kernel_rfl
  obtain ⟨i0, hinf, hz0, hz1, hz2⟩ := info_parts Tryd.infoByte
  obtain ⟨⟨c0, c1, c2⟩, f1, f2⟩ := h.facts
  clear hR hbad
  go_enter Tryd.func35, Tryd.ntmps35
  go_wp2_with fail
  go_loopw [11] (fun v wr => ∃ (b f : Nat) (nb : Bool) (acc : List UInt8), b ≤ s.size ∧ acc.length ≤ b ∧ SB w wr g s b nb acc v ∧ Hid (StrR s.data.toList e0 m.data.toList n0 f b nb acc (T, b', n'))) (fun _ wr => mOf wr g s)
  case atStart => exact ⟨a, _, no, [], ha, by simp, hB0, HR⟩
  case round =>
    clear hB0 HR c0 c1 c2 f1 f2 h
    obtain ⟨b, f, nb, acc, hb, hacc, hB, HI⟩ := hrel
    obtain ⟨⟨c0, c1, c2⟩, f1, f2⟩ := hB.1.facts
    have hm0 := hB.1.mOf
    have hbs := hB.2.2.1.size
    have hconv := fun n => conv_own (own_drewN hB.2.1 n)
    have hconv2 := fun n => conv_own ((hB.drewN n).set (p := ⟨g, 2, none⟩) rfl ((hB.drewN n).1.no1 true)).2.1
    cases nb
    case true =>
      obtain ⟨rfl, rfl, rfl⟩ : acc = T ∧ b = b' ∧ true = n' := by
        rcases HI.out with ⟨h1, _⟩ | ⟨_, h2⟩
        · cases h1
        · exact trip h2.symm
      clear HI
      by_cases hq0 : s.size ≤ b
      · have hq : decide ((s.size : Int) ≤ b) = true := decide_eq_true (by omega)
        go_wp2_with fail
        go_quiet (fail)
        go_wp2_with fail
        go_quiet (fail)
        simp only [World.drewN_drewN]
        go_wp2_with fail
        go_ret
        exact ⟨rfl, (hB.1.drewN _).no1 true, (hB.2.2.1.drewN _).setCell (.inl (by simp)) _⟩
      · have hq : decide ((s.size : Int) ≤ b) = false := decide_eq_false (by omega)
        go_wp2_with fail
        go_quiet (fail)
        go_wp2_with fail
        go_quiet (fail)
        simp only [World.drewN_drewN]
        go_wp2_with fail
        go_ret
        exact ⟨rfl, hB.1.drewN _, hB.2.2.1.drewN _⟩
    case false =>
      obtain ⟨hf, hI⟩ : s.data.toList.length < f + b ∧ inkS s.data.toList e0 m.data.toList n0 f b acc = (T, b', n') := by
        rcases HI.out with ⟨_, h2, h3⟩ | ⟨h1, _⟩
        · exact ⟨h2, h3⟩
        · cases h1
      rw [HL.out] at hf
      obtain ⟨f, rfl⟩ : ∃ f', f = f' + 1 := ⟨f - 1, by omega⟩
      clear HI
      unfold inkS at hI
      by_cases hlt : b < s.size
      case neg =>
        have hd : decide ((b : Int) < s.size) = false := decide_eq_false (by omega)
        have hq : decide ((s.size : Int) ≤ b) = true := decide_eq_true (by omega)
        rw [if_pos (by rw [HL.out]; omega)] at hI
        obtain ⟨rfl, rfl, rfl⟩ := trip hI
        clear hI hf HBAD
        go_wp2_with fail
        go_quiet (fail)
        go_wp2_with fail
        go_quiet (fail)
        simp only [World.drewN_drewN]
        go_wp2_with fail
        go_ret
        exact ⟨rfl, (hB.1.drewN _).no1 true, (hB.2.2.1.drewN _).setCell (.inl (by simp)) _⟩
      case pos =>
        have hd : decide ((b : Int) < s.size) = true := decide_eq_true (by omega)
        have hq : decide ((s.size : Int) ≤ b) = false := decide_eq_false (by omega)
        have hi0 : (0 : Int) ≤ b := by omega
        have hi1 : (b : Int) < s.size := by omega
        rw [if_neg (by rw [HL.out]; omega)] at hI
        have HC := Lib.hid (getElem_bt hlt)
        rw [← HC.out] at hI
        clear HC
        by_cases ke : ((s[b]'hlt).toNat : Int) = e0
        case pos =>
          rw [if_pos ke] at hI
          obtain ⟨rfl, rfl, rfl⟩ := trip hI
          have ke1 : (((s[b]'hlt).toNat : Int) == e0) = true := by rw [beq_iff_eq]; exact ke
          have ke2 : (((s[b]'hlt).toNat : Int) != e0) = false := by rw [bne, ke1]; rfl
          clear hI hf HBAD ke
          go_wp2_with fail
          go_quiet (fail)
          go_wp2_with fail
          go_quiet (fail)
          simp only [World.drewN_drewN]
          go_wp2_with fail
          go_ret
          exact ⟨rfl, hB.1.drewN _, hB.2.2.1.drewN _⟩
        case neg =>
        have ke1 : (((s[b]'hlt).toNat : Int) == e0) = false := by rw [beq_eq_false_iff_ne]; exact ke
        have ke2 : (((s[b]'hlt).toNat : Int) != e0) = true := by rw [bne, ke1]; rfl
        rw [if_neg ke] at hI
        go_wp2_with fail
        go_quiet (fail)
        go_upto_region 3 with fail
        go_quiet (fail)
        try simp only [World.drewN_drewN]
        clear hconv hconv2
        generalize hCC : ((s[b]'hlt).toNat : Int) = C at hI ke ke1 ke2 ⊢
        generalize hW : wr.drewN _ = W
        have hB4 : SB w W g s b false acc u11 := by rw [← hW]; exact hB.drewN _
        have hmW : mOf W g s = mOf wr g s := by rw [hB4.1.mOf, hm0]
        rw [hm0] at hmW
        clear hW hCC ke1 ke2
        obtain ⟨⟨d0, d1, d2⟩, g1, g2⟩ := hB4.1.facts
        have hh := HBAD.out C ke
        clear HBAD ke
        by_cases k10 : C = 10
        case pos =>
          subst k10
          rw [if_pos rfl] at hI
          obtain ⟨rfl, rfl, rfl⟩ := trip hI
          have hB7 := hB4.set (p := ⟨g, 2, none⟩) rfl (hB4.1.no1 true)
          clear hI hf
          go_upto_region 19 with (go_at_call 48; refine (hasC17' hh hbd2 _).mono ?_; rintro e w8 ⟨rfl, hw8⟩; rw [hw8]; clear hw8 w8)
          generalize W.setCell ⟨g, 2, none⟩ _ = W7 at hB7 ⊢
          obtain ⟨⟨m0, m1, m2⟩, n1, n2⟩ := hB7.1.facts
          have hcv := fun n => conv_own (own_drewN hB7.2.1 n)
          go_quiet (fail)
          go_wp2_with fail
          go_ret
          exact ⟨rfl, hB7.1.drewN _, hB7.2.2.1.drewN _⟩
        case neg =>
        rw [if_neg k10] at hI
        have hc10 : (C == 10) = false := by rw [beq_eq_false_iff_ne]; exact k10
        rw [hc10] at hh
        by_cases k92 : C = 92
        case pos =>
          subst k92
          clear hh
          rw [if_pos rfl] at hI
          have hB5 := hB4.set (p := ⟨g, 1, none⟩) rfl hB4.1.at1
          go_upto_region 6 with fail
          generalize hW : W.setCell ⟨g, 1, none⟩ _ = W6 at hB5 ⊢
          obtain ⟨⟨e0_, e1', e2⟩, j1, j2⟩ := hB5.1.facts
          have e1 : W6.cell? ⟨g, 1, none⟩ = some (.int .i64 ((b : Int) + 1)) := e1'
          clear e1' hW
          have hstop : escB s.data.toList m.data.toList b = false → (acc, b + 1, true) = (T, b', n') := fun e => by rw [e, if_neg (by simp)] at hI; exact hI
          by_cases hl2 : b + 1 < s.size
          case neg =>
            have hd3 : decide ((s.size : Int) ≤ (b : Int) + 1) = true := decide_eq_true (by omega)
            obtain ⟨rfl, rfl, rfl⟩ := trip (hstop (by unfold escB; simp; omega))
            clear hI hf hstop
            go_quiet (fail)
            have hB7 := (hB5.drewN nq).set (p := ⟨g, 2, none⟩) rfl ((hB5.drewN nq).1.no1 true)
            go_upto_region 19 with fail
            generalize (W6.drewN nq).setCell ⟨g, 2, none⟩ _ = W7 at hB7 ⊢
            obtain ⟨⟨m0, m1', m2⟩, n1, n2⟩ := hB7.1.facts
            have m1 : W7.cell? ⟨g, 1, none⟩ = some (.int .i64 ((b : Int) + 1)) := m1'
            clear m1'
            have hcv := fun n => conv_own ((hB7.drewN n).set (p := ⟨g, 2, none⟩) rfl ((hB7.drewN n).1.no1 true)).2.1
            go_quiet (fail)
            go_wp2_with fail
            go_ret
            exact ⟨rfl, (hB7.1.drewN _).no1 true, (hB7.2.2.1.drewN _).setCell (.inl (by simp)) _⟩
          case pos =>
            have hd3 : decide ((s.size : Int) ≤ (b : Int) + 1) = false := decide_eq_false (by omega)
            have hk0 : (0 : Int) ≤ (b : Int) + 1 := by omega
            have hk1 : (b : Int) + 1 < s.size := by omega
            have hbt := getElem_bt hl2
            have hes := escB_has (m := m.data.toList) (show b + 1 < s.data.toList.length by rw [HL.out]; exact hl2)
            rw [← hbt] at hes
            have hcu2 : s.data.toList.getD (b + 1) 0 = s[b + 1]'hl2 := by
              rw [List.getD_eq_getElem?_getD, List.getElem?_eq_getElem (by rw [HL.out]; exact hl2)]; rfl
            have ht1 : ((b : Int) + 1).toNat = b + 1 := by omega
            cases hh : hasB m.data.toList ((s[b + 1]'hl2).toNat : Int)
            · obtain ⟨rfl, rfl, rfl⟩ := trip (hstop (by rw [hes, hh]))
              clear hI hf hstop hbt hes hcu2
              go_quiet (first | (go_at_call 48; exact Calls.quiet_of_same (hasC17 hh hm2 _ _)))
              have hB7 := (hB5.drewN nq).set (p := ⟨g, 2, none⟩) rfl ((hB5.drewN nq).1.no1 true)
              go_upto_region 19 with fail
              generalize (W6.drewN nq).setCell ⟨g, 2, none⟩ _ = W7 at hB7 ⊢
              obtain ⟨⟨m0, m1', m2⟩, n1, n2⟩ := hB7.1.facts
              have m1 : W7.cell? ⟨g, 1, none⟩ = some (.int .i64 ((b : Int) + 1)) := m1'
              clear m1'
              have hcv := fun n => conv_own (own_drewN hB7.2.1 n)
              go_quiet (fail)
              go_wp2_with fail
              go_ret
              exact ⟨rfl, hB7.1.drewN _, hB7.2.2.1.drewN _⟩
            · rw [hes, hh, if_pos rfl, hcu2, ← hbt] at hI
              clear hstop hbt hes hcu2
              go_quiet (first | (go_at_call 48; exact Calls.quiet_of_same (hasC17 hh hm2 _ _)))
              go_upto_region 8 with fail
              go_quiet (fail)
              try simp only [World.drewN_drewN]
              generalize hx : (s[b + 1]'hl2) = x at hI hh ⊢
              clear hx hh
              generalize hW : W6.drewN _ = W7
              have hB7 : SB w W7 g s (b + 1) false acc u11 := by rw [← hW]; exact hB5.drewN _
              clear hW
              obtain ⟨⟨m0, m1', m2⟩, n1, n2⟩ := hB7.1.facts
              have m1 : W7.cell? ⟨g, 1, none⟩ = some (.int .i64 ((b : Int) + 1)) := m1'
              clear m1' e0_ e1 e2 j1 j2
              have hbsz : w.heap.size ≤ W7.heap.size := hB7.2.2.1.size
              obtain ⟨y, hy⟩ : ∃ y : UInt8, y = (if (x.toNat : Int) = n0 then 10 else x) := ⟨_, rfl⟩
              rw [← hy] at hI
              have hstep : ∀ w2 v2, SB w w2 g s (b + 2) false (acc ++ [y]) v2 → (∃ (b f : Nat) (nb : Bool) (acc : List UInt8), b ≤ s.size ∧ acc.length ≤ b ∧ SB w w2 g s b nb acc v2 ∧ Hid (StrR s.data.toList e0 m.data.toList n0 f b nb acc (T, b', n'))) ∧ mOf w2 g s < mOf wr g s := fun w2 v2 hB10 => ⟨⟨b + 2, f, false, acc ++ [y], by omega, by simp; omega, hB10, Lib.hid (.inl ⟨rfl, by rw [HL.out]; omega, hI⟩)⟩, by rw [hB10.1.mOf, hm0]; simp; omega⟩
              have Hstep := Lib.hid hstep
              clear hI hstep
              cases hn0 : ((x.toNat : Int) == n0)
              · obtain rfl : y = x := by rw [hy, if_neg (by rw [beq_eq_false_iff_ne] at hn0; exact hn0)]
                clear hy
                go_wp2_with (at_builtin; refine wpList_append_lies _ (by rfl) _ _ _ (by rfl) w.heap.size 5 i0 _ 1 1 hu hinf hz0 hz1 hz2 rfl (by omega) u11 acc.length (Lib.byteCells acc) (by rfl) (hB7.2.1.alloc _) ⟨W7.heap.size, 0, none⟩ 1 1 [.int .u8 (y.toNat : Int)] (by rfl) (by rfl) (World.news_of_block (heap_alloc_new _ _)) (by simp [Value.oneCell']) (by omega) (by simp [maxLen]; omega) (by omega) (by simp; omega) (W7.heap.size + 1) (by simp) ?_; intro gg capg w9 hown9 hgrow hat9 hlt9; have hB9 := hB7.app (xs := [y]) _ hgrow (by simp) hown9; obtain ⟨⟨p0, p1', p2⟩, q1, q2⟩ := hB9.1.facts; have p1 : w9.cell? ⟨g, 1, none⟩ = some (.int .i64 ((b : Int) + 1)) := p1'; clear p1')
                have hB10 : SB w (w9.setCell ⟨g, 1, none⟩ (.int .i64 ((b : Int) + 1 + 1))) g s (b + 2) false (acc ++ [y]) _ := hB9.set (p := ⟨g, 1, none⟩) rfl hB9.1.at1
                exact Hstep.out _ _ hB10
              · obtain rfl : y = 10 := by rw [hy, if_pos (by rw [beq_iff_eq] at hn0; exact hn0)]
                clear hy
                go_wp2_with (at_builtin; refine wpList_append_lies _ (by rfl) _ _ _ (by rfl) w.heap.size 5 i0 _ 1 1 hu hinf hz0 hz1 hz2 rfl (by omega) u11 acc.length (Lib.byteCells acc) (by rfl) (hB7.2.1.alloc _) ⟨W7.heap.size, 0, none⟩ 1 1 [.int .u8 10] (by rfl) (by rfl) (World.news_of_block (heap_alloc_new _ _)) (by simp [Value.oneCell']) (by omega) (by simp [maxLen]; omega) (by omega) (by simp; omega) (W7.heap.size + 1) (by simp) ?_; intro gg capg w9 hown9 hgrow hat9 hlt9; have hB9 := hB7.app (xs := [10]) _ hgrow (by simp) hown9; obtain ⟨⟨p0, p1', p2⟩, q1, q2⟩ := hB9.1.facts; have p1 : w9.cell? ⟨g, 1, none⟩ = some (.int .i64 ((b : Int) + 1)) := p1'; clear p1')
                have hB10 : SB w (w9.setCell ⟨g, 1, none⟩ (.int .i64 ((b : Int) + 1 + 1))) g s (b + 2) false (acc ++ [10]) _ := hB9.set (p := ⟨g, 1, none⟩) rfl hB9.1.at1
                exact Hstep.out _ _ hB10
        case neg =>
          have hc92 : (C == 92) = false := by rw [beq_eq_false_iff_ne]; exact k92
          rw [if_neg k92] at hI
          obtain ⟨n, ok, hfr⟩ : ∃ n ok, frontU s.data.toList b = (n, ok) := ⟨_, _, rfl⟩
          have hfl := front_le s.data.toList b (by rw [HL.out]; exact hlt)
          rw [hfr] at hfl hI
          rw [HL.out] at hfl
          simp only at hfl hI
          have kF := fun W k => frontC hfr hlt hs2 W k
          have hcl := cutL_len s.data.toList b (b + n) (by rw [HL.out]; exact hfl.2.1)
          have hst : (s.extract b (b + n)).size = n := by
            rw [ByteArray.size_extract]; omega
          have hstr : Lib.strCells (s.extract b (b + n)) = Lib.byteCells (cutL s.data.toList b (b + n)) := by
            rw [strCells_eq, ext_bytes]; rfl
          have hwr1 : IntKind.i64.wrap ((b : Int) + n) = (b : Int) + n := IntWalk.i64_in _ (by omega)
          have hq1 : (b : Int) + n ≤ s.size := by omega
          have hq2 : (b : Int) ≤ (b : Int) + n := by omega
          have ht1 : ((b : Int) + n).toNat = b + n := by omega
          clear hfr
          go_upto_region 15 with (go_at_call 48; refine (hasC17' hh hbd2 _).mono ?_; rintro e w8 ⟨rfl, hw8⟩; rw [hw8]; clear hw8 w8)
          go_quiet (first | (go_at_call 28; exact quiet_left (kF _ _)))
          go_upto_region 16 with fail
          have hB7 := (hB4.drewN nq).drew
          have hbsz : w.heap.size ≤ W.heap.size := hB7.2.2.1.size
          go_cut [11] from 15 to 160 (fun v9 wx => SB w wx g s b false (acc ++ cutL s.data.toList b (b + n)) v9)
          case first =>
            go_region_law (refine step_append_str _ (by rfl) _ _ _ _ (by rfl) w.heap.size 5 i0 hu hus hinf hz0 hz1 hz2 u11 acc.length (Lib.byteCells acc) (by rfl) hB7.2.1 (s.extract b (b + n)) (by rfl) (by rw [hst]; simp [maxLen]; omega) (by rw [hst]; omega) (by first | exact hbsz | (simp; omega)) ?_; intro v9 w9 hown9 hgrow; have hB9 := hB7.app0 (xs := cutL s.data.toList b (b + n)) (n := acc.length + (s.extract b (b + n)).size) hgrow (by rw [hst, List.length_append, hcl]; omega) (by rw [← hstr]; exact hown9))
            all_goals
              go_wp2_with fail
              go_meet
              exact hB9
          case rest =>
            obtain ⟨⟨m0, m1, m2⟩, n1, n2⟩ := hcut.1.facts
            have hB10 : SB w (wc.setCell ⟨g, 1, none⟩ (.int .i64 ((b : Int) + n))) g s (b + n) false (acc ++ cutL s.data.toList b (b + n)) _ := hcut.set (p := ⟨g, 1, none⟩) rfl (hcut.1.atN (b + n))
            cases ok
            · rw [if_neg (by simp)] at hI
              have hB11 := hB10.set (p := ⟨g, 2, none⟩) rfl (hB10.1.no1 true)
              go_wp2_with fail
              exact ⟨⟨b + n, f, true, acc ++ cutL s.data.toList b (b + n), by omega, by (rw [List.length_append, hcl]; omega), hB11, Lib.hid (.inr ⟨rfl, hI.symm⟩)⟩, by (rw [hB11.1.mOf, hm0]; simp; omega)⟩
            · rw [if_pos rfl] at hI
              have hB11 := hB10.set (p := ⟨g, 2, none⟩) rfl (hB10.1.no1 false)
              have hn1 := hfl.2.2 rfl
              go_wp2_with fail
              exact ⟨⟨b + n, f, false, acc ++ cutL s.data.toList b (b + n), by omega, by (rw [List.length_append, hcl]; omega), hB11, Lib.hid (.inl ⟨rfl, by rw [HL.out]; omega, hI⟩)⟩, by (rw [hB11.1.mOf, hm0]; simp; omega)⟩
/-- Marks in another order, and one that no sign meets. -/
theorem inkS_mark {l m m' : List UInt8} {n n' : Int} (hm : ∀ a, escB l m a = escB l m' a) (h1 : ∀ c ∈ m, (c.toNat : Int) ≠ n) (h2 : ∀ c ∈ m, (c.toNat : Int) ≠ n') (e : Int) : ∀ f a acc, inkS l e m n f a acc = inkS l e m' n' f a acc
  | 0, a, acc => rfl
  | f + 1, a, acc => by
    unfold inkS
    rw [← hm a]
    cases hq : escB l m a
    · simp only [Bool.false_eq_true, if_false]
      split
      · rfl
      split
      · rfl
      split
      · rfl
      split
      · rfl
      split
      · exact inkS_mark hm h1 h2 e _ _ _
      · rfl
    · obtain ⟨c, hc, hb⟩ : ∃ c ∈ m, bt l (a + 1) = c.toNat := by
        simp [escB] at hq
        obtain ⟨_, c, hc, h⟩ := hq
        exact ⟨c, hc, h⟩
      simp only [if_true, hb, if_neg (h1 c hc), if_neg (h2 c hc)]
      split
      · rfl
      split
      · rfl
      split
      · rfl
      split
      · exact inkS_mark hm h1 h2 e _ _ _
      split
      · exact inkS_mark hm h1 h2 e _ _ _
      · rfl
theorem ink_quote (l : List UInt8) (a : Nat) (no : Bool) : ink l 34 [92, 34] 0 a no = ink l 34 inT 110 a no := by
  unfold ink
  rw [inkS_mark (m' := inT) (n := 0) (n' := 110) (fun a => by simp [escB, inT, Bool.or_comm]) (by decide) (by decide)]
end Go.Proofs.YtdngieihlcknmaaDoor
