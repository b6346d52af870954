/- The walks of the reference's rules: plain, word, isLabel, parts. -/
import Derived.Test.YtjffagffjcbolaaRgLaw
namespace Go.Proofs.Ytjffagffjcbolaa
set_option linter.unusedVariables false
set_option linter.unusedSimpArgs false
open Go.RowKit
theorem in4_any (c : Int) (w : World) (h0 : 0 ≤ c) (h1 : c ≤ 255) : Calls Try.prog 83 #[.int .u8 c, .int .i64 4] w fun e w' => e = .returned (.bool (dtNode c)) ∧ w' = w := by
  go_enter Try.func83, Try.ntmps83
  go_wp2_with fail
  all_goals go_ret
  all_goals refine ⟨ret_bool (bcl ?_), rfl⟩
  all_goals (simp [dtNode, letB, digB] <;> omega)
theorem some_len (s : ByteArray) : (!(s.data.toList == [])) = decide (0 < s.size) := by
  apply bcl
  rw [decide_eq_true_eq, Bool.not_eq_true', beq_eq_false_iff_ne, ne_eq, ← List.length_eq_zero_iff]
  have : s.data.toList.length = s.size := by simp
  omega
set_option maxHeartbeats 1600000 in
theorem rplain_any (s : ByteArray) (w : World) (hs : s.size ≤ 9223372036854775807) :
    Calls Try.prog 68 #[.string s] w fun e w' => e = .returned (.bool (inksB dtNode s.data.toList)) ∧ w' = w := by
  have HL : Hid (s.data.toList.length = s.size) := Lib.hid (by simp)
  have HZ := Lib.hid (some_len s)
  obtain ⟨V, hV⟩ : ∃ V, inksB dtNode s.data.toList = V := ⟨_, rfl⟩
  rw [hV]
  have HV := Lib.hid hV
  clear hV
  go_enter Try.func68, Try.ntmps68
  go_wp2_with fail
  go_loop [3] (fun i => ∃ k : Nat, k ≤ s.size ∧ i = .int .i64 k ∧ Hid (∀ j, j < k → dtNode (bt s.data.toList j) = true)) (fun i => s.size - (intOf i).toNat)
  case atStart => exact ⟨0, by omega, rfl, Lib.hid (fun j h => by omega)⟩
  case round =>
    obtain ⟨k, hk, rfl, HG⟩ := hrel
    by_cases hlt : k < s.size
    · have hd : decide ((k : Int) < s.size) = true := decide_eq_true (by omega)
      have hk0 : (0 : Int) ≤ k := by omega
      have hk1 : (k : Int) < s.size := by omega
      have HC := Lib.hid (getElem_bt hlt)
      have kK := fun W => in4_any ((s[k]'hlt).toNat : Int) W (by omega) (by have := (s[k]'hlt).toNat_lt; omega)
      cases hp : dtNode ((s[k]'hlt).toNat : Int)
      · rw [hp] at kK
        have HF : Hid (V = false) := Lib.hid (by rw [← HV.out]; exact inks_no (by rw [HL.out]; exact hlt) (by rw [← HC.out]; exact hp))
        clear hp HG
        go_wp2_with (go_at_call 83; refine (kK _).mono ?_; rintro e w1 ⟨rfl, hw1⟩; rw [hw1]; clear hw1 w1)
        go_ret
        exact ⟨ret_bool HF.out.symm, rfl⟩
      · rw [hp] at kK
        have HF : Hid (∀ j, j < k + 1 → dtNode (bt s.data.toList j) = true) := Lib.hid (fun j hj => by
          by_cases e : j = k
          · rw [e, ← HC.out]; exact hp
          · exact HG.out j (by omega))
        clear hp HG
        go_wp2_with (go_at_call 83; refine (kK _).mono ?_; rintro e w1 ⟨rfl, hw1⟩; rw [hw1]; clear hw1 w1)
        exact ⟨⟨k + 1, by omega, rfl, HF⟩, by (simp only [intOf]; omega)⟩
    · have hd : decide ((k : Int) < s.size) = false := decide_eq_false (by omega)
      have HF : Hid (V = decide (0 < s.size)) := Lib.hid (by rw [← HV.out, ← HZ.out]; exact inks_yes (fun j hj => HG.out j (by rw [HL.out] at hj; omega)))
      clear HG
      go_wp2_with fail
      go_ret
      exact ⟨ret_bool (by first | (rw [HF.out]; done) | (rw [HF.out]; simp; done) | (rw [HF.out]; simp; omega)), rfl⟩
theorem rword_any (s : ByteArray) (w : World) (hs : s.size ≤ 9223372036854775807) :
    Calls Try.prog 55 #[.string s] w fun e w' => e = .returned (.bool (textB s)) ∧ w' = w := by
  have k := fun W => rplain_any s W hs
  have HB : Hid (textB s = (inksB dtNode s.data.toList && decide (s.size ≤ 60))) := Lib.hid rfl
  generalize inksB dtNode s.data.toList = Q at k HB
  cases Q
  · go_enter Try.func55, Try.ntmps55
    go_wp2_with (go_at_call 68; refine (k _).mono ?_; rintro e w1 ⟨rfl, hw1⟩; rw [hw1]; clear hw1 w1)
    go_ret
    exact ⟨ret_bool (by rw [HB.out]; rfl), rfl⟩
  · have hd : decide ((s.size : Int) ≤ 60) = decide (s.size ≤ 60) := decide_eq_decide.2 (by omega)
    go_enter Try.func55, Try.ntmps55
    go_wp2_with (go_at_call 68; refine (k _).mono ?_; rintro e w1 ⟨rfl, hw1⟩; rw [hw1]; clear hw1 w1)
    go_ret
    exact ⟨ret_bool (by rw [HB.out]; simp; try omega), rfl⟩
theorem lb_cases2 (x : ByteArray) : (isLb x = true ∧ (((x.toList == [109, 101, 116, 114, 105, 99]) = false ∧ (x.toList == [109, 101, 116, 114, 105, 99, 42]) = false ∧ (x.toList == [95]) = false) ∧ ((x.toList != [109, 101, 116, 114, 105, 99]) = true ∧ (x.toList != [109, 101, 116, 114, 105, 99, 42]) = true ∧ (x.toList != [95]) = true))) ∨
    (isLb x = false ∧ (((x.toList == [109, 101, 116, 114, 105, 99]) = true ∧ (x.toList != [109, 101, 116, 114, 105, 99]) = false) ∨ (((x.toList == [109, 101, 116, 114, 105, 99]) = false ∧ (x.toList == [109, 101, 116, 114, 105, 99, 42]) = true) ∧ ((x.toList != [109, 101, 116, 114, 105, 99]) = true ∧ (x.toList != [109, 101, 116, 114, 105, 99, 42]) = false)) ∨ (((x.toList == [109, 101, 116, 114, 105, 99]) = false ∧ (x.toList == [109, 101, 116, 114, 105, 99, 42]) = false ∧ (x.toList == [95]) = true) ∧ ((x.toList != [109, 101, 116, 114, 105, 99]) = true ∧ (x.toList != [109, 101, 116, 114, 105, 99, 42]) = true ∧ (x.toList != [95]) = false)))) := by
  have h := lb_cases x
  unfold bne
  rcases h with ⟨a, b, c, d⟩ | ⟨a, b | ⟨b, c⟩ | ⟨b, c, d⟩⟩
  · exact .inl ⟨a, ⟨b, c, d⟩, by rw [b]; rfl, by rw [c]; rfl, by rw [d]; rfl⟩
  · exact .inr ⟨a, .inl ⟨b, by rw [b]; rfl⟩⟩
  · exact .inr ⟨a, .inr (.inl ⟨⟨b, c⟩, by rw [b]; rfl, by rw [c]; rfl⟩)⟩
  · exact .inr ⟨a, .inr (.inr ⟨⟨b, c, d⟩, by rw [b]; rfl, by rw [c]; rfl, by rw [d]; rfl⟩)⟩
theorem risLabel_any (x : ByteArray) (w : World) : Calls Try.prog 67 #[.string x] w fun e w' => e = .returned (.bool (isLb x)) ∧ w' = w := by
  rcases lb_cases2 x with ⟨hq, ⟨h1, h2, h3⟩, k1, k2, k3⟩ | ⟨hq, ⟨h1, k1⟩ | ⟨⟨h1, h2⟩, k1, k2⟩ | ⟨⟨h1, h2, h3⟩, k1, k2, k3⟩⟩
  all_goals
    have HQ := Lib.hid hq
    clear hq
    go_enter Try.func67, Try.ntmps67
    go_wp2_with fail
    go_ret
    exact ⟨ret_bool HQ.out.symm, rfl⟩
theorem isM_list (x : ByteArray) : isM x = (x.toList == [109, 101, 116, 114, 105, 99]) := by unfold isM; rw [ByteArray.toList_eq]
theorem isT_list (x : ByteArray) : isT x = (x.toList == [109, 101, 116, 114, 105, 99, 42]) := by unfold isT; rw [ByteArray.toList_eq]
theorem mtB_lb {x : ByteArray} (h : isLb x = true) : mtB x = false := by
  unfold isLb at h
  unfold mtB
  revert h
  cases isM x <;> cases isT x <;> simp
set_option maxRecDepth 100000 in
set_option maxHeartbeats 6400000 in
theorem rparts_any (A : Option Addr) (n cap : Nat) (ps : List ByteArray) (w : World) (hl : IsRows strCell 1 w w.heap.size A n ps) (hn : n ≤ 2097152) (hsz : ∀ x ∈ ps, x.size ≤ 9223372036854775807) :
    Calls Try.prog 53 #[.slice A n cap] w fun e w' => e = .returned (.bool (partsB ps)) ∧ Below w.heap.size w w' := by
  have hll := hl.1
  have HSZ := Lib.hid hsz
  clear hsz
  have HB : Hid (∀ (P : Prop), ((lbsT ps).any (wrongP (lbsT ps)) = true ∨ tailOk ps = false) → partsB ps = false) := Lib.hid (fun _ h => by
    rcases h with h | h
    · exact parts_no h
    · exact parts_tail h)
  go_enter Try.func53, Try.ntmps53
  go_wp2_with fail
  go_loopw [3, 4] (fun q i wr => Below w.heap.size w wr ∧ ∃ k M : Nat, k ≤ n ∧ M ≤ k ∧ q = .int .i64 M ∧ i = .int .i64 k ∧ Hid (cntM ps k = M) ∧ Hid (∀ j x, j < k → j + 1 < ps.length → ps[j]? = some x → isT x = false) ∧ Hid (LbOk ps k)) (fun _ i _ => n - (intOf i).toNat)
  case atStart => exact ⟨Below.refl _ _, 0, 0, by omega, by omega, rfl, rfl, Lib.hid rfl, Lib.hid (fun j x h => by omega), Lib.hid (fun j x h => by omega)⟩
  case round =>
    obtain ⟨hbw, k, M, hk, hMk, rfl, rfl, HM, HT, HL⟩ := hrel
    by_cases hlt : k < n
    · have hd : decide ((k : Int) < n) = true := decide_eq_true (by omega)
      have hk0 : (0 : Int) ≤ k := by omega
      have hk1 : (k : Int) < n := by omega
      have hw1 : IntKind.i64.wrap ((n : Int) - 1) = (n : Int) - 1 := IntWalk.i64_in _ (by omega)
      have hwM : IntKind.i64.wrap ((M : Int) + 1) = (M : Int) + 1 := IntWalk.i64_in _ (by omega)
      obtain ⟨bk, off, x, rfl, hgb, hx, e0⟩ := str_at (hl.bel hbw) hlt
      have HX := Lib.hid hx
      have HS := Lib.hid (cntM_succ hx)
      have hxs := HSZ.out x (List.mem_of_getElem? hx)
      have HIM := Lib.hid (isM_list x)
      have HIT := Lib.hid (isT_list x)
      clear hx
      rcases lb_cases2 x with ⟨hq, ⟨h1, h2, h3⟩, k1, k2, k3⟩ | ⟨hq, ⟨h1, k1⟩ | ⟨⟨h1, h2⟩, k1, k2⟩ | ⟨⟨h1, h2, h3⟩, k1, k2, k3⟩⟩
      · have HQ := Lib.hid hq
        have HC1 : Hid (cntM ps (k + 1) = M) := Lib.hid (by rw [HS.out, HM.out, mtB_lb HQ.out]; rfl)
        have HT1 : Hid (∀ j x, j < k + 1 → j + 1 < ps.length → ps[j]? = some x → isT x = false) := Lib.hid (fun j y hj hj2 hy => by
          by_cases e : j = k
          · subst e; rw [HX.out] at hy; injection hy with hy; rw [← hy, HIT.out]; exact h2
          · exact HT.out j y (by omega) hj2 hy)
        have kW := fun W => rword_any x W hxs
        clear hq HT HM HS
        cases ht : textB x
        · rw [ht] at kW
          have HF := Lib.hid (HB.out True (.inl (lb_word HX.out HQ.out ht)))
          clear ht
          go_wp2_with (go_at_call 55; (with_reducible refine (kW _).mono ?_); rintro e w1 ⟨rfl, hw1⟩; rw [hw1]; clear hw1 w1)
          go_ret
          exact ⟨ret_bool HF.out.symm, hbw⟩
        · rw [ht] at kW
          have HTX := Lib.hid ht
          clear ht
          go_wp2_with (go_at_call 55; (with_reducible refine (kW _).mono ?_); rintro e w1 ⟨rfl, hw1⟩; rw [hw1]; clear hw1 w1)
          go_loopw [5] (fun i2 wi => Below w.heap.size w wi ∧ ∃ m : Nat, m ≤ k ∧ i2 = .int .i64 m ∧ Hid (∀ i y, i < m → ps[i]? = some y → y.data.toList ≠ x.data.toList)) (fun i _ => k - (intOf i).toNat)
          case atStart => exact ⟨hbw, 0, by omega, rfl, Lib.hid (fun j x h => by omega)⟩
          case round =>
            obtain ⟨hbi, m, hm, rfl, HD⟩ := hrel
            clear e0
            by_cases hmk : m < k
            · have hdm : decide ((m : Int) < (k : Int)) = true := decide_eq_true (by omega)
              have hm0 : (0 : Int) ≤ m := by omega
              have hm1 : (m : Int) < n := by omega
              obtain ⟨bk1, off1, x1, hA1, hgb1, hx1, e1⟩ := str_at (hl.bel hbi) hlt
              injection hA1 with hA1
              injection hA1 with hA1 hA2 _
              subst hA1; subst hA2
              obtain rfl : x = x1 := by have := HX.out; rw [hx1] at this; injection this with this; exact this.symm
              obtain ⟨bk2, off2, y, hA2, hgb2, hy, e2⟩ := str_at (hl.bel hbi) (show m < n by omega)
              injection hA2 with hA2
              injection hA2 with hA3 hA4 _
              subst hA3; subst hA4
              have HY := Lib.hid hy
              have HXY : Hid ((y.toList == x.toList) = (y.data.toList == x.data.toList)) := Lib.hid (by rw [ByteArray.toList_eq, ByteArray.toList_eq])
              clear hx1 hy
              cases hq : (y.toList == x.toList)
              · have HF : Hid (∀ i z, i < m + 1 → ps[i]? = some z → z.data.toList ≠ x.data.toList) := Lib.hid (fun i z hi hz => by
                  by_cases e : i = m
                  · subst e; rw [HY.out] at hz; injection hz with hz; rw [← hz]
                    have := HXY.out; rw [hq] at this
                    exact beq_eq_false_iff_ne.1 this.symm
                  · exact HD.out i z (by omega) hz)
                clear HD
                go_wp2_with fail
                go_quiet (fail)
                go_wp2_with fail
                exact ⟨⟨bl_drewN hbi _, m + 1, by omega, rfl, HF⟩, by (simp only [intOf]; omega)⟩
              · have HF := Lib.hid (HB.out True (.inl (lb_twice HX.out HQ.out hmk HY.out (by have := HXY.out; rw [hq] at this; exact eq_of_beq this.symm))))
                clear HD
                go_wp2_with fail
                go_quiet (fail)
                go_wp2_with fail
                go_ret
                exact ⟨ret_bool HF.out.symm, bl_drewN hbi _⟩
            · have hdm : decide ((m : Int) < (k : Int)) = false := decide_eq_false (by omega)
              obtain rfl : m = k := by omega
              have HL1 : Hid (LbOk ps (m + 1)) := Lib.hid (fun j z hj hz hlz => by
                by_cases e : j = m
                · subst e; rw [HX.out] at hz; injection hz with hz; subst hz
                  exact ⟨HTX.out, fun i y hi hy => HD.out i y hi hy⟩
                · exact HL.out j z (by omega) hz hlz)
              clear HL HD
              go_wp2_with fail
              exact ⟨⟨hbi, m + 1, M, by omega, by omega, rfl, rfl, HC1, HT1, HL1⟩, by (simp only [intOf]; omega)⟩
      all_goals
        have HL1 : Hid (LbOk ps (k + 1)) := Lib.hid (fun j z hj hz hlz => by
          by_cases e : j = k
          · subst e; rw [HX.out] at hz; injection hz with hz; subst hz; rw [hq] at hlz; cases hlz
          · exact HL.out j z (by omega) hz hlz)
        clear hq HL
      · have HC1 : Hid (cntM ps (k + 1) = M + 1) := Lib.hid (by rw [HS.out, HM.out]; unfold mtB; rw [HIM.out, h1]; rfl)
        have HT1 : Hid (∀ j x, j < k + 1 → j + 1 < ps.length → ps[j]? = some x → isT x = false) := Lib.hid (fun j y hj hj2 hy => by
          by_cases e : j = k
          · subst e; rw [HX.out] at hy; injection hy with hy; rw [← hy]
            unfold isT
            have := HIM.out
            rw [h1] at this
            unfold isM at this
            rw [eq_of_beq this]; rfl
          · exact HT.out j y (by omega) hj2 hy)
        clear HT HM HS
        go_wp2_with fail
        exact ⟨⟨hbw, k + 1, M + 1, by omega, by omega, rfl, rfl, HC1, HT1, HL1⟩, by (simp only [intOf]; omega)⟩
      · by_cases hlast : k + 1 < n
        · have hd2 : decide ((k : Int) < (n : Int) - 1) = true := decide_eq_true (by omega)
          have HF := Lib.hid (HB.out True (.inr (tail_no HX.out (by omega) (by rw [HIT.out]; exact h2))))
          clear HT HM HS HL1
          go_wp2_with fail
          go_ret
          exact ⟨ret_bool HF.out.symm, hbw⟩
        · have hd2 : decide ((k : Int) < (n : Int) - 1) = false := decide_eq_false (by omega)
          have HC1 : Hid (cntM ps (k + 1) = M + 1) := Lib.hid (by rw [HS.out, HM.out]; unfold mtB; rw [HIM.out, h1, HIT.out, h2]; rfl)
          have HT1 : Hid (∀ j x, j < k + 1 → j + 1 < ps.length → ps[j]? = some x → isT x = false) := Lib.hid (fun j y hj hj2 hy => HT.out j y (by omega) hj2 hy)
          clear HT HM HS
          go_wp2_with fail
          exact ⟨⟨hbw, k + 1, M + 1, by omega, by omega, rfl, rfl, HC1, HT1, HL1⟩, by (simp only [intOf]; omega)⟩
      · have HC1 : Hid (cntM ps (k + 1) = M) := Lib.hid (by rw [HS.out, HM.out]; unfold mtB; rw [HIM.out, h1, HIT.out, h2]; rfl)
        have HT1 : Hid (∀ j x, j < k + 1 → j + 1 < ps.length → ps[j]? = some x → isT x = false) := Lib.hid (fun j y hj hj2 hy => by
          by_cases e : j = k
          · subst e; rw [HX.out] at hy; injection hy with hy; rw [← hy, HIT.out]; exact h2
          · exact HT.out j y (by omega) hj2 hy)
        clear HT HM HS
        go_wp2_with fail
        exact ⟨⟨hbw, k + 1, M, by omega, by omega, rfl, rfl, HC1, HT1, HL1⟩, by (simp only [intOf]; omega)⟩
    · have hd : decide ((k : Int) < n) = false := decide_eq_false (by omega)
      obtain rfl : k = ps.length := by omega
      have HF : Hid (partsB ps = (decide (0 < M) && decide (ps.length ≤ 12))) := Lib.hid (by
        rw [parts_end (tail_yes (fun j x hj hx => HT.out j x (by omega) hj hx)) HL.out, HM.out])
      clear HT HL HM
      by_cases hM0 : 0 < M
      · have d0 : decide ((0 : Int) < (M : Int)) = true := decide_eq_true (by omega)
        have d0n : decide (0 < M) = true := decide_eq_true hM0
        rw [d0n] at HF
        go_wp2_with fail
        go_ret
        exact ⟨ret_bool (by first | (rw [HF.out]; done) | (rw [HF.out]; simp; done) | (rw [HF.out]; simp; omega)), hbw⟩
      · have d0 : decide ((0 : Int) < (M : Int)) = false := decide_eq_false (by omega)
        have d0n : decide (0 < M) = false := decide_eq_false hM0
        rw [d0n] at HF
        go_wp2_with fail
        go_ret
        exact ⟨ret_bool (by rw [HF.out]; rfl), hbw⟩
end Go.Proofs.Ytjffagffjcbolaa
