/- The walk of the reference's signs. -/
import Derived.Test.YtdngieihlcknmaaRefC
namespace Go.Proofs.Ytdngieihlcknmaa
set_option linter.unusedVariables false
set_option linter.unusedSimpArgs false
open Go.RowKit
theorem hasC20 {m : ByteArray} {c : Int} {q : Bool} (h : hasB m.data.toList c = q) (hm : m.size ≤ 4611686018427387904) (w : World) (n : Nat) : Calls Try.prog 27 #[.string m, .int .u8 c] (w.drewN n) fun e w' => e = .returned (.bool q) ∧ w' = w.drewN n := by
  rw [← h]; exact has20_any m c _ hm
theorem hasC20' {m : ByteArray} {c : Int} {q : Bool} (h : hasB m.data.toList c = q) (hm : m.size ≤ 4611686018427387904) (w : World) : Calls Try.prog 27 #[.string m, .int .u8 c] w fun e w' => e = .returned (.bool q) ∧ w' = w := by
  rw [← h]; exact has20_any m c _ hm
theorem frontC {s : ByteArray} {a n : Nat} {q : Bool} (h : frontU s.data.toList a = (n, q)) (ha : a < s.size) (hs : s.size ≤ 4611686018427387904) (w : World) (k : Nat) : Calls Try.prog 32 #[.string s, .int .i64 a] (w.drewN k) fun e w' => e = .returned (.tuple #[.int .i64 (n : Int), .bool q]) ∧ w.drewN k = w' := by
  have := refFront_any s a (w.drewN k) ha hs
  rw [h] at this; exact this
theorem escB_has {l m : List UInt8} {b : Nat} (h : b + 1 < l.length) : escB l m b = hasB m (bt l (b + 1)) := by
  unfold escB hasB; simp [h]
/-- The loop's end: what follows of what it says in the end. -/
theorem sgn_out {a b : Nat} {acc T : List UInt8} {b' : Nat} {n' nb : Bool} (h : sgnEnd a (acc, b, nb) = (T, b', n')) : acc = T ∧ b = b' ∧ n' = (nb || b == a) := by
  unfold sgnEnd at h
  injection h with e1 e2; injection e2 with e3 e4
  exact ⟨e1, e3, e4.symm⟩
set_option maxRecDepth 100000 in
set_option maxHeartbeats 12800000 in
theorem signs20_any (g : Nat) (s m : ByteArray) (wide first : Bool) (a : Nat) (no : Bool) (T : List UInt8) (b' : Nat) (n' : Bool) (w : World) (h : Sr w g s a no) (ha : a ≤ s.size) (hs : s.size ≤ 1048576) (hm : m.size ≤ 1048576) (h32 : hasB m.data.toList 32 = true) (hF : first = true → no = false → a < s.size → bt s.data.toList a ≠ 35) (hR : sgn s.data.toList m.data.toList wide a no = (T, b', n')) :
    Calls Try.prog 38 #[.pointer (some ⟨g, 0, none⟩), .string m, .bool wide, .bool first] w fun e w' => e = .returned (.string (mkS T)) ∧ Sr w' g s b' n' ∧ Aw [g] w w' := by
  have HL : Hid (s.data.toList.length = s.size) := Lib.hid (by simp)
  have hs2 : s.size ≤ 4611686018427387904 := Nat.le_trans hs (by decide)
  have hm2 : m.size ≤ 4611686018427387904 := Nat.le_trans hm (by decide)
  obtain ⟨R0, hR0⟩ : ∃ R0, (if no then ([], a, true) else sgnS s.data.toList m.data.toList wide (s.data.toList.length + 1) a []) = R0 := ⟨_, rfl⟩
  have hE : sgnEnd a R0 = (T, b', n') := by
    rw [← hR, ← hR0]
    cases no
    · rfl
    · rfl
  have HR : Hid (SgnR s.data.toList m.data.toList wide (s.data.toList.length + 1) a no [] R0) := Lib.hid (by
    cases no
    · exact .inl ⟨rfl, by omega, hR0⟩
    · exact .inr ⟨rfl, hR0.symm⟩)
  have HE := Lib.hid hE
  have hB0 : SB w w g s a no [] (.slice none 0 0) := ⟨h, World.ownsRow_nil _ _ _ _, Aw.refl _ _, h.lt⟩
  have HF : Hid (first = true → no = false → a < s.size → bt s.data.toList a ≠ 35) := Lib.hid hF
  have hu : Try.prog.underlying 53 = some (.slice 5) := by kernel_rfl
  have hus : Try.prog.underlying 9 = some .string := by kernel_rfl
  obtain ⟨i0, hinf, hz0, hz1, hz2⟩ := info_parts Try.infoByte
  obtain ⟨⟨c0, c1, c2⟩, f1, f2⟩ := h.facts
  clear hR hR0 hE hF
  go_enter Try.func38, Try.ntmps38
  go_wp2_with fail
  go_loopw [10] (fun v wr => ∃ (b f : Nat) (nb : Bool) (acc : List UInt8), a ≤ b ∧ b ≤ s.size ∧ acc.length ≤ b ∧ SB w wr g s b nb acc v ∧ Hid (SgnR s.data.toList m.data.toList wide f b nb acc R0) ∧ (nb = false → b = a → no = false)) (fun _ wr => mOf wr g s)
  case atStart => exact ⟨a, _, no, [], Nat.le_refl _, ha, by simp, hB0, HR, fun h _ => h⟩
  case round =>
    clear hB0 HR c0 c1 c2 f1 f2 h
    obtain ⟨b, f, nb, acc, hab, hb, hacc, hB, HI, hbn⟩ := hrel
    obtain ⟨⟨c0, c1, c2⟩, f1, f2⟩ := hB.1.facts
    have hm0 := hB.1.mOf
    have hbs := hB.2.2.1.size
    obtain ⟨q, hq⟩ : ∃ q : Bool, ((b : Int) == (a : Int)) = q := ⟨_, rfl⟩
    have hqn : (b == a) = q := by rw [← hq]; apply bcl; simp; omega
    have hconv := fun n => conv_own (own_drewN hB.2.1 n)
    have hconv2 := fun n => conv_own ((hB.drewN n).set (p := ⟨g, 2, none⟩) rfl ((hB.drewN n).1.no1 true)).2.1
    cases nb
    case true =>
      obtain ⟨rfl, rfl, rfl⟩ : acc = T ∧ b = b' ∧ n' = true := by
        rcases HI.out with ⟨h1, _⟩ | ⟨_, h2⟩
        · cases h1
        · have h1 := HE.out
          rw [h2] at h1
          exact sgn_out h1
      clear HI HE HF
      go_wp2_with fail
      go_quiet (fail)
      cases q
      all_goals
        go_wp2_with fail
        go_ret
        first
          | exact ⟨rfl, hB.1.drewN _, hB.2.2.1.drewN _⟩
          | exact ⟨rfl, (hB.1.drewN _).no1 true, (hB.2.2.1.drewN _).setCell (.inl (by simp)) _⟩
    case false =>
      have hbn' : b = a → no = false := hbn rfl
      clear hbn
      obtain ⟨hf, hI⟩ : s.data.toList.length < f + b ∧ sgnS s.data.toList m.data.toList wide f b acc = R0 := by
        rcases HI.out with ⟨_, h2, h3⟩ | ⟨h1, _⟩
        · exact ⟨h2, h3⟩
        · cases h1
      rw [HL.out] at hf
      obtain ⟨f, rfl⟩ : ∃ f', f = f' + 1 := ⟨f - 1, by omega⟩
      clear HI
      have hE := HE.out
      have hFF := HF.out
      unfold sgnS at hI
      by_cases hlt : b < s.size
      case neg =>
        have hd : decide ((b : Int) < s.size) = false := decide_eq_false (by omega)
        rw [if_pos (by rw [HL.out]; omega)] at hI
        rw [← hI] at hE
        obtain ⟨rfl, rfl, hn⟩ := sgn_out hE
        rw [hqn, Bool.false_or] at hn
        subst hn
        clear hE HE hFF hI HF hf
        go_wp2_with fail
        go_quiet (fail)
        cases n'
        all_goals
          go_wp2_with fail
          go_ret
          first
            | exact ⟨rfl, hB.1.drewN _, hB.2.2.1.drewN _⟩
            | exact ⟨rfl, (hB.1.drewN _).no1 true, (hB.2.2.1.drewN _).setCell (.inl (by simp)) _⟩
      case pos =>
        have hd : decide ((b : Int) < s.size) = true := decide_eq_true (by omega)
        have hi0 : (0 : Int) ≤ b := by omega
        have hi1 : (b : Int) < s.size := by omega
        rw [if_neg (by rw [HL.out]; omega)] at hI
        have HC := Lib.hid (getElem_bt hlt)
        have hCl := bt_le s.data.toList b
        have hC0 := bt_nonneg s.data.toList b
        have hcu : s.data.toList.getD b 0 = s[b]'hlt := by
          rw [List.getD_eq_getElem?_getD, List.getElem?_eq_getElem (by rw [HL.out]; exact hlt)]; rfl
        rw [← HC.out] at hI hCl hC0
        generalize hCC : ((s[b]'hlt).toNat : Int) = C at hI hCl hC0
        go_wp2_with fail
        go_quiet (fail)
        go_upto_region 4 with fail
        go_quiet (fail)
        try rw [hCC]
        try simp only [World.drewN_drewN]
        generalize hW : wr.drewN _ = W
        have hB4 : SB w W g s b false acc u10 := by rw [← hW]; exact hB.drewN _
        have hmW : mOf W g s = mOf wr g s := by rw [hB4.1.mOf, hm0]
        rw [hm0] at hmW
        clear hW
        obtain ⟨⟨d0, d1, d2⟩, g1, g2⟩ := hB4.1.facts
        by_cases k92 : C = 92
        case pos =>
          subst k92
          rw [if_pos rfl] at hI
          have hB5 := hB4.set (p := ⟨g, 1, none⟩) rfl hB4.1.at1
          go_upto_region 7 with fail
          generalize hW : W.setCell ⟨g, 1, none⟩ _ = W6 at hB5 ⊢
          obtain ⟨⟨e0, e1', e2⟩, j1, j2⟩ := hB5.1.facts
          have e1 : W6.cell? ⟨g, 1, none⟩ = some (.int .i64 ((b : Int) + 1)) := e1'
          have hqz : ((b : Int) + 1 == (a : Int)) = false := by rw [beq_eq_false_iff_ne]; omega
          have hqn2 : (b + 1 == a) = false := by rw [beq_eq_false_iff_ne]; omega
          clear e1' hW
          have hstop : escB s.data.toList m.data.toList b = false → (acc, b + 1, true) = R0 := fun e => by rw [e, if_neg (by simp)] at hI; exact hI
          by_cases hl2 : b + 1 < s.size
          case neg =>
            have hd3 : decide ((s.size : Int) ≤ (b : Int) + 1) = true := decide_eq_true (by omega)
            have := hstop (by unfold escB; simp; omega)
            rw [← this] at hE
            obtain ⟨rfl, rfl, hn⟩ := sgn_out hE
            rw [Bool.true_or] at hn
            subst hn
            clear hE HE hFF hI HF hf this hstop
            go_quiet (fail)
            have hB7 := (hB5.drewN nq).set (p := ⟨g, 2, none⟩) rfl ((hB5.drewN nq).1.no1 true)
            have hcv := conv_own hB7.2.1
            go_wp2_with fail
            go_ret
            exact ⟨rfl, hB7.1, hB7.2.2.1⟩
          case pos =>
            have hd3 : decide ((s.size : Int) ≤ (b : Int) + 1) = false := decide_eq_false (by omega)
            have hk0 : (0 : Int) ≤ (b : Int) + 1 := by omega
            have hk1 : (b : Int) + 1 < s.size := by omega
            have hbt := getElem_bt hl2
            have hes := escB_has (m := m.data.toList) (show b + 1 < s.data.toList.length by rw [HL.out]; exact hl2)
            rw [← hbt] at hes
            have hcu2 : s.data.toList.getD (b + 1) 0 = s[b + 1]'hl2 := by
              rw [List.getD_eq_getElem?_getD, List.getElem?_eq_getElem (by rw [HL.out]; exact hl2)]; rfl
            have ht1 : ((b : Int) + 1).toNat = b + 1 := by omega
            cases hh : hasB m.data.toList ((s[b + 1]'hl2).toNat : Int)
            · have := hstop (by rw [hes, hh])
              rw [← this] at hE
              obtain ⟨rfl, rfl, hn⟩ := sgn_out hE
              rw [Bool.true_or] at hn
              subst hn
              clear hE HE hFF hI HF hf this hstop hbt hes hcu2
              go_quiet (first | (go_at_call 27; exact Calls.quiet_of_same (hasC20 hh hm2 _ _)))
              have hB7 := (hB5.drewN nq).set (p := ⟨g, 2, none⟩) rfl ((hB5.drewN nq).1.no1 true)
              have hcv := conv_own hB7.2.1
              go_wp2_with fail
              go_ret
              exact ⟨rfl, hB7.1, hB7.2.2.1⟩
            · rw [hes, hh, if_pos rfl, hcu2] at hI
              clear hE hFF hstop hbt hes hcu2
              have HI := Lib.hid hI
              clear hI
              go_quiet (first | (go_at_call 27; exact Calls.quiet_of_same (hasC20 hh hm2 _ _)))
              go_upto_region 9 with fail
              have hB7 := (hB5.drewN nq).drew
              have hbsz : w.heap.size ≤ W6.heap.size := hB7.2.2.1.size
              go_region_law (refine step_append_lies _ (by rfl) _ _ _ (by rfl) w.heap.size 5 i0 _ 1 1 hu hinf hz0 hz1 hz2 rfl (by omega) u10 acc.length (Lib.byteCells acc) (by rfl) (hB7.2.1.alloc _) ⟨W6.heap.size, 0, none⟩ 1 1 [.int .u8 ((s[b + 1]'hl2).toNat : Int)] (by rfl) (by rfl) (World.news_of_block (heap_alloc_new _ _)) (by simp [Value.oneCell']) (by omega) (by simp [maxLen]; omega) (by omega) (by simp; omega) (W6.heap.size + 1) (by simp) ?_; intro gg capg w9 hown9 hgrow hat9 hlt9; have hB9 := hB7.app (xs := [s[b + 1]'hl2]) _ hgrow (by simp) hown9; obtain ⟨⟨m0, m1', m2⟩, n1, n2⟩ := hB9.1.facts; have m1 : w9.cell? ⟨g, 1, none⟩ = some (.int .i64 ((b : Int) + 1)) := m1')
              all_goals
                have hB10 : SB w (w9.setCell ⟨g, 1, none⟩ (.int .i64 ((b : Int) + 1 + 1))) g s (b + 2) false (acc ++ [s[b + 1]'hl2]) _ := hB9.set (p := ⟨g, 1, none⟩) rfl hB9.1.at1
                clear m1'
                go_wp2_with fail
                exact ⟨⟨b + 2, f, false, acc ++ [s[b + 1]'hl2], by omega, by omega, by simp; omega, hB10, Lib.hid (.inl ⟨rfl, by rw [HL.out]; omega, HI.out⟩), fun _ h => by omega⟩, by (rw [hB10.1.mOf, hm0]; simp; omega)⟩
        case neg =>
          have hc92 : (C == 92) = false := by rw [beq_eq_false_iff_ne]; exact k92
          rw [if_neg k92] at hI
          by_cases hwd : wide = true ∧ 127 < C
          case pos =>
            obtain ⟨rfl, h127⟩ := hwd
            have hd128 : decide (128 ≤ C) = true := decide_eq_true (by omega)
            rw [if_pos ⟨rfl, h127⟩] at hI
            obtain ⟨n, ok, hfr⟩ : ∃ n ok, frontU s.data.toList b = (n, ok) := ⟨_, _, rfl⟩
            have hfl := front_le s.data.toList b (by rw [HL.out]; exact hlt)
            rw [hfr] at hfl hI
            rw [HL.out] at hfl
            simp only at hfl hI
            have kF := fun W k => frontC hfr hlt hs2 W k
            have hcl := cutL_len s.data.toList b (b + n) (by rw [HL.out]; exact hfl.2.1)
            have hst : (s.extract b (b + n)).size = n := by
              rw [ByteArray.size_extract]; omega
            have hstr : Lib.strCells (s.extract b (b + n)) = Lib.byteCells (cutL s.data.toList b (b + n)) := by
              rw [strCells_eq, ext_bytes]; rfl
            have hwr1 : IntKind.i64.wrap ((b : Int) + n) = (b : Int) + n := IntWalk.i64_in _ (by omega)
            have hq1 : (b : Int) + n ≤ s.size := by omega
            have hq2 : (b : Int) ≤ (b : Int) + n := by omega
            have ht1 : ((b : Int) + n).toNat = b + n := by omega
            clear hfr
            go_wp2_with fail
            go_quiet (first | (go_at_call 32; exact quiet_left (kF _ _)))
            go_upto_region 13 with fail
            have hB7 := (hB4.drewN nq).drew
            have hbsz : w.heap.size ≤ W.heap.size := hB7.2.2.1.size
            go_cut [10] from 18 to 182 (fun v9 wx => SB w wx g s b false (acc ++ cutL s.data.toList b (b + n)) v9)
            case first =>
              go_region_law (refine step_append_str _ (by rfl) _ _ _ _ (by rfl) w.heap.size 5 i0 hu hus hinf hz0 hz1 hz2 u10 acc.length (Lib.byteCells acc) (by rfl) hB7.2.1 (s.extract b (b + n)) (by rfl) (by rw [hst]; simp [maxLen]; omega) (by rw [hst]; omega) (by first | exact hbsz | (simp; omega)) ?_; intro v9 w9 hown9 hgrow; have hB9 := hB7.app0 (xs := cutL s.data.toList b (b + n)) (n := acc.length + (s.extract b (b + n)).size) hgrow (by rw [hst, List.length_append, hcl]; omega) (by rw [← hstr]; exact hown9))
              all_goals
                go_wp2_with fail
                go_meet
                exact hB9
            case rest =>
              obtain ⟨⟨m0, m1, m2⟩, n1, n2⟩ := hcut.1.facts
              have hB10 : SB w (wc.setCell ⟨g, 1, none⟩ (.int .i64 ((b : Int) + n))) g s (b + n) false (acc ++ cutL s.data.toList b (b + n)) _ := hcut.set (p := ⟨g, 1, none⟩) rfl (hcut.1.atN (b + n))
              cases ok
              · rw [if_neg (by simp)] at hI
                have hB11 := hB10.set (p := ⟨g, 2, none⟩) rfl (hB10.1.no1 true)
                go_wp2_with fail
                exact ⟨⟨b + n, f, true, acc ++ cutL s.data.toList b (b + n), by omega, by omega, by (rw [List.length_append, hcl]; omega), hB11, Lib.hid (.inr ⟨rfl, hI.symm⟩), fun h => by cases h⟩, by (rw [hB11.1.mOf, hm0]; simp; omega)⟩
              · rw [if_pos rfl] at hI
                have hB11 := hB10.set (p := ⟨g, 2, none⟩) rfl (hB10.1.no1 false)
                have hn1 := hfl.2.2 rfl
                go_wp2_with fail
                exact ⟨⟨b + n, f, false, acc ++ cutL s.data.toList b (b + n), by omega, by omega, by (rw [List.length_append, hcl]; omega), hB11, Lib.hid (.inl ⟨rfl, by rw [HL.out]; omega, hI⟩), fun _ h => by omega⟩, by (rw [hB11.1.mOf, hm0]; simp; omega)⟩
          case neg =>
            rw [if_neg hwd] at hI
            change (if 32 < C ∧ C < 127 ∧ hasB m.data.toList C = false then _ else _) = _ at hI
            have hcv0 := conv_own hB4.2.1
            have hcv1 := conv_own (hB4.set (p := ⟨g, 2, none⟩) rfl (hB4.1.no1 true)).2.1
            by_cases hgo : 32 < C ∧ C < 127 ∧ hasB m.data.toList C = false
            case pos =>
              rw [if_pos hgo, hcu] at hI
              have HI := Lib.hid hI
              obtain ⟨h32', h127, hh⟩ := hgo
              have d128 : decide (128 ≤ C) = false := decide_eq_false (by omega)
              have d32 : decide (C < 32) = false := decide_eq_false (by omega)
              have d126 : decide (126 < C) = false := decide_eq_false (by omega)
              have hbsz : w.heap.size ≤ W.heap.size := hB4.2.2.1.size
              have hcb : (.int .u8 C : Value) = .int .u8 ((s[b]'hlt).toNat : Int) := by rw [hCC]
              clear hI hwd hcv0 hcv1
              have h35 : first = true → q = true → (C == 35) = false := fun e1 e2 => by
                subst e1 e2
                rw [beq_eq_false_iff_ne]
                have hba : b = a := by simpa using hqn
                have := hFF rfl (hbn' hba) (by omega)
                rw [← hba, ← HC.out, hCC] at this
                exact this
              clear hFF hE hcu
              obtain ⟨x, hx⟩ : ∃ x, x = s[b]'hlt := ⟨_, rfl⟩
              rw [← hx] at HI hcb hCC
              clear hx HC
              subst hCC
              cases first
              case false =>
                go_wp2_with (first
                  | (go_at_call 27; refine (hasC20' hh hm2 _).mono ?_; rintro e w8 ⟨rfl, hw8⟩; rw [hw8]; clear hw8 w8)
                  | (at_builtin; refine wpList_append_lies _ (by rfl) _ _ _ (by rfl) w.heap.size 5 i0 _ 1 1 hu hinf hz0 hz1 hz2 rfl (by omega) u10 acc.length (Lib.byteCells acc) (by rfl) (hB4.2.1.alloc _) ⟨W.heap.size, 0, none⟩ 1 1 [.int .u8 (x.toNat : Int)] (by rfl) (by rfl) (World.news_of_block (heap_alloc_new _ _)) (by simp [Value.oneCell']) (by omega) (by simp [maxLen]; omega) (by omega) (by simp; omega) (W.heap.size + 1) (by simp) ?_; intro gg capg w9 hown9 hgrow hat9 hlt9; have hB9 := hB4.app (xs := [x]) _ hgrow (by simp) hown9; obtain ⟨⟨m0, m1, m2⟩, n1, n2⟩ := hB9.1.facts; have hB10 := hB9.set (p := ⟨g, 1, none⟩) rfl hB9.1.at1))
                exact ⟨⟨b + 1, f, false, acc ++ [x], by omega, by omega, by simp; omega, hB10, Lib.hid (.inl ⟨rfl, by rw [HL.out]; omega, HI.out⟩), fun _ h => by omega⟩, by (rw [hB10.1.mOf, hm0]; simp; omega)⟩
              case true =>
                cases q
                case true =>
                  have h35' := h35 rfl rfl
                  clear h35
                  go_wp2_with (first
                    | (go_at_call 27; refine (hasC20' hh hm2 _).mono ?_; rintro e w8 ⟨rfl, hw8⟩; rw [hw8]; clear hw8 w8)
                    | (at_builtin; refine wpList_append_lies _ (by rfl) _ _ _ (by rfl) w.heap.size 5 i0 _ 1 1 hu hinf hz0 hz1 hz2 rfl (by omega) u10 acc.length (Lib.byteCells acc) (by rfl) (hB4.2.1.alloc _) ⟨W.heap.size, 0, none⟩ 1 1 [.int .u8 (x.toNat : Int)] (by rfl) (by rfl) (World.news_of_block (heap_alloc_new _ _)) (by simp [Value.oneCell']) (by omega) (by simp [maxLen]; omega) (by omega) (by simp; omega) (W.heap.size + 1) (by simp) ?_; intro gg capg w9 hown9 hgrow hat9 hlt9; have hB9 := hB4.app (xs := [x]) _ hgrow (by simp) hown9; obtain ⟨⟨m0, m1, m2⟩, n1, n2⟩ := hB9.1.facts; have hB10 := hB9.set (p := ⟨g, 1, none⟩) rfl hB9.1.at1))
                  exact ⟨⟨b + 1, f, false, acc ++ [x], by omega, by omega, by simp; omega, hB10, Lib.hid (.inl ⟨rfl, by rw [HL.out]; omega, HI.out⟩), fun _ h => by omega⟩, by (rw [hB10.1.mOf, hm0]; simp; omega)⟩
                case false =>
                  clear h35
                  go_wp2_with (first
                    | (go_at_call 27; refine (hasC20' hh hm2 _).mono ?_; rintro e w8 ⟨rfl, hw8⟩; rw [hw8]; clear hw8 w8)
                    | (at_builtin; refine wpList_append_lies _ (by rfl) _ _ _ (by rfl) w.heap.size 5 i0 _ 1 1 hu hinf hz0 hz1 hz2 rfl (by omega) u10 acc.length (Lib.byteCells acc) (by rfl) (hB4.2.1.alloc _) ⟨W.heap.size, 0, none⟩ 1 1 [.int .u8 (x.toNat : Int)] (by rfl) (by rfl) (World.news_of_block (heap_alloc_new _ _)) (by simp [Value.oneCell']) (by omega) (by simp [maxLen]; omega) (by omega) (by simp; omega) (W.heap.size + 1) (by simp) ?_; intro gg capg w9 hown9 hgrow hat9 hlt9; have hB9 := hB4.app (xs := [x]) _ hgrow (by simp) hown9; obtain ⟨⟨m0, m1, m2⟩, n1, n2⟩ := hB9.1.facts; have hB10 := hB9.set (p := ⟨g, 1, none⟩) rfl hB9.1.at1))
                  exact ⟨⟨b + 1, f, false, acc ++ [x], by omega, by omega, by simp; omega, hB10, Lib.hid (.inl ⟨rfl, by rw [HL.out]; omega, HI.out⟩), fun _ h => by omega⟩, by (rw [hB10.1.mOf, hm0]; simp; omega)⟩
            case neg =>
              rw [if_neg hgo] at hI
              rw [← hI] at hE
              obtain ⟨rfl, rfl, hn⟩ := sgn_out hE
              rw [hqn, Bool.false_or] at hn
              subst hn
              clear hE HE hFF hI HF hf hcu
              by_cases k32 : C < 32
              · have d128 : decide (128 ≤ C) = false := decide_eq_false (by omega)
                have d32 : decide (C < 32) = true := decide_eq_true (by omega)
                cases n'
                all_goals
                  go_wp2_with fail
                  go_ret
                  first
                    | exact ⟨rfl, hB4.1, hB4.2.2.1⟩
                    | exact ⟨rfl, hB4.1.no1 true, hB4.2.2.1.setCell (.inl (by simp)) _⟩
              · have d32 : decide (C < 32) = false := decide_eq_false (by omega)
                by_cases k126 : 126 < C
                · have d126 : decide (126 < C) = true := decide_eq_true (by omega)
                  by_cases k128 : 128 ≤ C
                  · have d128 : decide (128 ≤ C) = true := decide_eq_true (by omega)
                    obtain rfl : wide = false := by
                      cases wide
                      · rfl
                      · exact absurd ⟨rfl, by omega⟩ hwd
                    cases n'
                    all_goals
                      go_wp2_with fail
                      go_ret
                      first
                        | exact ⟨rfl, hB4.1, hB4.2.2.1⟩
                        | exact ⟨rfl, hB4.1.no1 true, hB4.2.2.1.setCell (.inl (by simp)) _⟩
                  · have d128 : decide (128 ≤ C) = false := decide_eq_false (by omega)
                    cases n'
                    all_goals
                      go_wp2_with fail
                      go_ret
                      first
                        | exact ⟨rfl, hB4.1, hB4.2.2.1⟩
                        | exact ⟨rfl, hB4.1.no1 true, hB4.2.2.1.setCell (.inl (by simp)) _⟩
                · have d126 : decide (126 < C) = false := decide_eq_false (by omega)
                  have d128 : decide (128 ≤ C) = false := decide_eq_false (by omega)
                  have hh : hasB m.data.toList C = true := by
                    cases hh : hasB m.data.toList C
                    · by_cases e : C = 32
                      · rw [e, h32] at hh; cases hh
                      · exact absurd ⟨by omega, by omega, hh⟩ hgo
                    · rfl
                  cases n'
                  all_goals
                    go_wp2_with (go_at_call 27; refine (hasC20' hh hm2 _).mono ?_; rintro e w8 ⟨rfl, hw8⟩; rw [hw8]; clear hw8 w8)
                    go_ret
                    first
                      | exact ⟨rfl, hB4.1, hB4.2.2.1⟩
                      | exact ⟨rfl, hB4.1.no1 true, hB4.2.2.1.setCell (.inl (by simp)) _⟩
end Go.Proofs.Ytdngieihlcknmaa
