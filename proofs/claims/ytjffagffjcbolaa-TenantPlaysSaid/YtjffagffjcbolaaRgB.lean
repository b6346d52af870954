/- The walks of the reference's rules: extra, Good. -/
import Derived.Test.YtjffagffjcbolaaRgA
import Derived.Deep.CutRange
namespace Go.Proofs.Ytjffagffjcbolaa
set_option linter.unusedVariables false
set_option linter.unusedSimpArgs false
open Go.RowKit
theorem tm_cases (c : Int) : (tmInk c = true ∧ decide (c < 33) = false ∧ decide (126 < c) = false ∧ (c == 59) = false ∧ (c == 44) = false) ∨
    (tmInk c = false ∧ ((decide (c < 33) = true) ∨ (decide (c < 33) = false ∧ decide (126 < c) = true) ∨ (decide (c < 33) = false ∧ decide (126 < c) = false ∧ (c == 59) = true) ∨ (decide (c < 33) = false ∧ decide (126 < c) = false ∧ (c == 59) = false ∧ (c == 44) = true))) := by
  unfold tmInk
  simp only [Bool.and_eq_true, Bool.not_eq_true', decide_eq_true_eq, decide_eq_false_iff_not, beq_iff_eq, beq_eq_false_iff_ne, Bool.and_eq_false_iff, Bool.not_eq_false', ne_eq]
  omega
/-- What stands while labels beside parts are looked at. -/
structure XS (w0 w : World) (g : Nat) (fA : Option Addr) (fn fC : Nat) (pA : Option Addr) (pn pC : Nat) (eA : Option Addr) (en eC : Nat) : Prop where
  b : Blk w g 63 #[.slice fA fn fC, .slice pA pn pC, .slice eA en eC]
  l : Below w0.heap.size w0 w
section
variable {w0 w w' : World} {g : Nat} {fA : Option Addr} {fn fC : Nat} {pA : Option Addr} {pn pC : Nat} {eA : Option Addr} {en eC : Nat}
theorem XS.bel (h : XS w0 w g fA fn fC pA pn pC eA en eC) (k : Below w.heap.size w w') : XS w0 w' g fA fn fC pA pn pC eA en eC := ⟨h.b.below k (Blk.lt h.b), bl_any h.l k⟩
theorem XS.alloc (h : XS w0 w g fA fn fC pA pn pC eA en eC) (o : Obj) : XS w0 (w.alloc o) g fA fn fC pA pn pC eA en eC := h.bel ((Below.refl _ _).alloc (Nat.le_refl _) o)
theorem XS.drewN (h : XS w0 w g fA fn fC pA pn pC eA en eC) (n : Nat) : XS w0 (w.drewN n) g fA fn fC pA pn pC eA en eC := ⟨h.b.drewN n, bl_drewN h.l n⟩
end
set_option maxRecDepth 100000 in
set_option maxHeartbeats 12800000 in
theorem rextra_any (fs ps : List ByteArray) (es : List Lab) (fA pA eA : Option Addr) (fC pC eC : Nat) (w : World) (h : RuleAt w w.heap.size ⟨⟨fs, ps, es⟩, fA, fC, pA, pC, eA, eC⟩) (ok : RuleOk ⟨fs, ps, es⟩) :
    Calls Try.prog 54 #[.agg #[.slice fA fs.length fC, .slice pA ps.length pC, .slice eA es.length eC]] w fun e w' => e = .returned (.bool (extraB es ps)) ∧ Below w.heap.size w w' := by
  have hp : IsRows strCell 1 w w.heap.size pA ps.length ps := h.p
  have he : IsRows labCell 2 w w.heap.size eA es.length es := h.e
  have hpn : ps.length ≤ 2097152 := ok.p.1
  have hen : es.length ≤ 2097152 := ok.e.1
  have HEZ : Hid (∀ x ∈ es, x.1.size ≤ 9223372036854775807 ∧ x.2.size ≤ 9223372036854775807) := Lib.hid ok.e.2
  have hX : ∀ k x y, es[k]? = some (x, y) → Hid (extraAt ps es k = ((decide (k = 0) || decide (nmL (es.getD (k - 1) default) < x.data.toList)) && (textB x && (inksB tmInk y.data.toList && (decide (y.size ≤ 60) && decide (cntL (lbsT ps) x = 0)))))) := fun k x y h => Lib.hid (extraAt_of h)
  have hS0 : XS w (w.alloc (.cells #[.slice fA fs.length fC, .slice pA ps.length pC, .slice eA es.length eC] 63)) w.heap.size fA fs.length fC pA ps.length pC eA es.length eC := ⟨Blk.new w _ _, bl_alloc (Below.refl _ _) _⟩
  clear h ok
  generalize hfn : fs.length = fn at *
  generalize hpl : ps.length = pn at *
  generalize hel : es.length = en at *
  have HPL := Lib.hid hpl
  have HEL := Lib.hid hel
  clear hfn hpl hel
  go_enter Try.func54, Try.ntmps54
  go_upto_region 1 with (fail)
  generalize hg : w.heap.size = g at hS0
  generalize w.alloc (.cells #[.slice fA fn fC, .slice pA pn pC, .slice eA en eC] 63) = W at *
  go_wp2_with fail
  go_loopw [3, 4] (fun q i wr => XS w wr g fA fn fC pA pn pC eA en eC ∧ ∃ k M : Nat, k ≤ pn ∧ M ≤ k ∧ q = .int .i64 M ∧ i = .int .i64 k ∧ Hid ((lbsT (ps.take k)).length = M)) (fun _ i _ => pn - (intOf i).toNat)
  case atStart => exact ⟨hS0, 0, 0, by omega, by omega, rfl, rfl, Lib.hid rfl⟩
  case round =>
    obtain ⟨hS, k, M, hk, hMk, rfl, rfl, HM⟩ := hrel
    clear hS0
    have c1 := (Blk.cell hS.b 1).trans rfl
    have c2 := (Blk.cell hS.b 2).trans rfl
    by_cases hlt : k < pn
    · have hd : decide ((k : Int) < pn) = true := decide_eq_true (by omega)
      have hk0 : (0 : Int) ≤ k := by omega
      have hk1 : (k : Int) < pn := by omega
      have hwM : IntKind.i64.wrap ((M : Int) + 1) = (M : Int) + 1 := IntWalk.i64_in _ (by omega)
      obtain ⟨bk, off, x, rfl, hgb, hx, e0⟩ := str_at (hp.bel hS.l) hlt
      have HS := Lib.hid (lbs_cnt hx)
      have kL := fun W => risLabel_any x W
      clear hx
      cases hq : isLb x
      all_goals
        rw [hq] at kL
        have HQ := Lib.hid hq
        clear hq
      · have HC : Hid ((lbsT (ps.take (k + 1))).length = M) := Lib.hid (by rw [HS.out, HM.out, HQ.out]; rfl)
        clear HS HQ HM
        go_wp2_with (go_at_call 67; (with_reducible refine (kL _).mono ?_); rintro e w1 ⟨rfl, hw1⟩; rw [hw1]; clear hw1 w1)
        exact ⟨⟨hS, k + 1, M, by omega, by omega, rfl, rfl, HC⟩, by (simp only [intOf]; omega)⟩
      · have HC : Hid ((lbsT (ps.take (k + 1))).length = M + 1) := Lib.hid (by rw [HS.out, HM.out, HQ.out]; rfl)
        clear HS HQ HM
        go_wp2_with (go_at_call 67; (with_reducible refine (kL _).mono ?_); rintro e w1 ⟨rfl, hw1⟩; rw [hw1]; clear hw1 w1)
        exact ⟨⟨hS, k + 1, M + 1, by omega, by omega, rfl, rfl, HC⟩, by (simp only [intOf]; omega)⟩
    · have hd : decide ((k : Int) < pn) = false := decide_eq_false (by omega)
      have HMM : Hid ((lbsT ps).length = M) := Lib.hid (by rw [← HM.out, List.take_of_length_le (by have := HPL.out; omega)])
      clear HM
      have hM2 : M ≤ 2097152 := by omega
      go_wp2_with fail
      clear hd hlt hMk hk c1 c2
      go_loopw [5] (fun i wr => XS w wr g fA fn fC pA pn pC eA en eC ∧ ∃ k : Nat, k ≤ en ∧ i = .int .i64 k ∧ Hid (extraTo ps es k = true)) (fun i _ => en - (intOf i).toNat)
      case atStart => exact ⟨hS, 0, by omega, rfl, Lib.hid rfl⟩
      case round =>
        obtain ⟨hSr, k, hk, rfl, HG⟩ := hrel
        clear hS
        have c1 := (Blk.cell hSr.b 1).trans rfl
        have c2 := (Blk.cell hSr.b 2).trans rfl
        by_cases hlt : k < en
        · have hd : decide ((k : Int) < en) = true := decide_eq_true (by omega)
          have hk0 : (0 : Int) ≤ k := by omega
          have hk1 : (k : Int) < en := by omega
          obtain ⟨b, off, x, y, rfl, hgb, hx, e0, e1⟩ := lab_at (he.bel hSr.l) hlt
          have HX := hX k x y hx
          obtain ⟨hxs, hys⟩ := HEZ.out _ (List.mem_of_getElem? hx)
          have kW := fun W => rword_any x W hxs
          clear hx hX
          have hBx := Blk.new wr 88 #[.string x, .string y]
          have hSx := hSr.alloc (.cells #[.string x, .string y] 88)
          go_upto_region 11 with (fail)
          clear e0 e1 c1 c2
          generalize wr.alloc (.cells #[.string x, .string y] 88) = wx at *
          generalize wr.heap.size = bx at *
          have c1 := (Blk.cell hSx.b 1).trans rfl
          have c2 := (Blk.cell hSx.b 2).trans rfl
          have d0 := (Blk.cell hBx 0).trans rfl
          have d1 := (Blk.cell hBx 1).trans rfl
          have HLY : Hid (y.data.toList.length = y.size) := Lib.hid (by simp)
          have HWD : Hid (textB x = textB x) := Lib.hid rfl
          have HNO : ∀ P : Prop, Hid (extraAt ps es k = false → extraB es ps = false) := fun _ => Lib.hid (fun h => extraB_no h (by have := HEL.out; omega))
          have hcase : (decide ((0:Int) < (k:Int)) = false ∧ decide (0 < k) = false ∧ Hid (extraAt ps es k = (textB x && (inksB tmInk y.data.toList && (decide (y.size ≤ 60) && decide (cntL (lbsT ps) x = 0)))))) ∨
              (∃ px : ByteArray, (decide ((0:Int) < (k:Int)) = true ∧ decide (0 < k) = true) ∧ wx.cell? ⟨b, off + (k - 1) * 2, none⟩ = some (.string px) ∧ Op.bytesLess px.toList x.toList = false ∧ Hid (extraB es ps = false) ∧ 1 ≤ k) ∨
              (∃ px : ByteArray, (decide ((0:Int) < (k:Int)) = true ∧ decide (0 < k) = true) ∧ wx.cell? ⟨b, off + (k - 1) * 2, none⟩ = some (.string px) ∧ Op.bytesLess px.toList x.toList = true ∧ 1 ≤ k ∧ Hid (extraAt ps es k = (textB x && (inksB tmInk y.data.toList && (decide (y.size ≤ 60) && decide (cntL (lbsT ps) x = 0)))))) := by
            rcases Nat.eq_zero_or_pos k with hz | hz
            · exact .inl ⟨decide_eq_false (by omega), decide_eq_false (by omega), Lib.hid (by rw [HX.out, decide_eq_true hz]; rfl)⟩
            · right
              obtain ⟨b3, off3, px, py, hAA, _, hpx, p0, _⟩ := lab_at (he.bel hSx.l) (show k - 1 < en by omega)
              cases hAA
              have HP : decide (nmL (es.getD (k - 1) default) < x.data.toList) = Op.bytesLess px.toList x.toList := by
                rw [List.getD_eq_getElem?_getD, hpx, bytesLess_eq, ByteArray.toList_eq, ByteArray.toList_eq]; rfl
              cases hq : Op.bytesLess px.toList x.toList
              · exact .inl ⟨px, ⟨decide_eq_true (by omega), decide_eq_true hz⟩, p0, hq, Lib.hid ((HNO True).out (by rw [HX.out, HP, hq, decide_eq_false (by omega)]; rfl)), hz⟩
              · exact .inr ⟨px, ⟨decide_eq_true (by omega), decide_eq_true hz⟩, p0, hq, hz, Lib.hid (by rw [HX.out, HP, hq, Bool.or_true, Bool.true_and])⟩
          have kT : ∀ W, Calls Try.prog 55 #[.string x] W fun e w' => e = .returned (.bool (textB x)) ∧ W = w' := fun W => (kW W).mono fun _ _ ⟨h1, h2⟩ => ⟨h1, h2.symm⟩
          have hwk : IntKind.i64.wrap ((k : Int) - 1) = (k : Int) - 1 := IntWalk.i64_in _ (by omega)
          have hwk2 : ((k : Int) - 1).toNat = k - 1 := by omega
          have hwk3 : (k : Int) - 1 < en := by omega
          clear kW HX HWD
          obtain ⟨qt, hqt⟩ : ∃ qt, textB x = qt := ⟨_, rfl⟩
          rw [hqt] at kT
          have HQT := Lib.hid hqt
          clear hqt
          have hs : y.size < 1 ∨ (1 ≤ y.size ∧ 60 < y.size) ∨ (1 ≤ y.size ∧ y.size ≤ 60) := by omega
          rcases hcase with ⟨g1, g2, HY⟩ | ⟨px, ⟨g1, g2⟩, p0, hq, HF, hz⟩ | ⟨px, ⟨g1, g2⟩, p0, hq, hz, HY⟩
          rotate_left
          · have hz1 : (1 : Int) ≤ k := by omega
            cases qt
            all_goals
              clear HQT
              go_quiet (first | (go_at_call 55; exact quiet_left (kT _)))
              go_wp2_with fail
              go_ret
              exact ⟨ret_bool HF.out.symm, by first | exact bl_drewN hSx.l _ | (rw [← hg]; exact bl_drewN hSx.l _)⟩
          all_goals
            cases qt
            · have HF : Hid (extraB es ps = false) := Lib.hid ((HNO True).out (by rw [HY.out, HQT.out]; rfl))
              clear HQT HY
              go_quiet (first | (go_at_call 55; exact quiet_left (kT _)))
              go_wp2_with fail
              go_ret
              exact ⟨ret_bool HF.out.symm, by first | exact bl_drewN hSx.l _ | (rw [← hg]; exact bl_drewN hSx.l _)⟩
            rcases hs with hs | ⟨hs, hs2⟩ | ⟨hs, hs2⟩
            · have HF : Hid (extraB es ps = false) := Lib.hid ((HNO True).out (by
                have : y.data.toList = [] := List.length_eq_zero_iff.1 (by have := HLY.out; omega)
                rw [HY.out, this]; simp [inksB]))
              have f1 : decide ((y.size : Int) < 1) = true := decide_eq_true (by omega)
              have f2 : decide (y.size < 1) = true := decide_eq_true hs
              clear HQT HY hs
              go_quiet (first | (go_at_call 55; exact quiet_left (kT _)))
              go_wp2_with fail
              go_ret
              exact ⟨ret_bool HF.out.symm, by first | exact bl_drewN hSx.l _ | (rw [← hg]; exact bl_drewN hSx.l _)⟩
            · have HF : Hid (extraB es ps = false) := Lib.hid ((HNO True).out (by rw [HY.out, decide_eq_false (show ¬ y.size ≤ 60 by omega)]; simp))
              have f1 : decide ((y.size : Int) < 1) = false := decide_eq_false (by omega)
              have f2 : decide (y.size < 1) = false := decide_eq_false (by omega)
              have f5 : decide ((60 : Int) < (y.size : Int)) = true := decide_eq_true (by omega)
              have f6 : decide (60 < y.size) = true := decide_eq_true hs2
              clear HQT HY hs hs2
              go_quiet (first | (go_at_call 55; exact quiet_left (kT _)))
              go_wp2_with fail
              go_ret
              exact ⟨ret_bool HF.out.symm, by first | exact bl_drewN hSx.l _ | (rw [← hg]; exact bl_drewN hSx.l _)⟩
            · have f1 : decide ((y.size : Int) < 1) = false := decide_eq_false (by omega)
              have f2 : decide (y.size < 1) = false := decide_eq_false (by omega)
              have f5 : decide ((60 : Int) < (y.size : Int)) = false := decide_eq_false (by omega)
              have f6 : decide (60 < y.size) = false := decide_eq_false (by omega)
              have HY2 : Hid (extraAt ps es k = (inksB tmInk y.data.toList && decide (cntL (lbsT ps) x = 0))) := Lib.hid (by rw [HY.out, HQT.out, decide_eq_true hs2]; simp)
              clear HQT HY
              go_quiet (first | (go_at_call 55; exact quiet_left (kT _)))
              go_wp2_with fail
              clear f1 f2 f5 f6 kT g1 g2 c1 c2 d0 d1 hwk hwk2 hwk3
              go_loopw [7] (fun i wi => (XS w wi g fA fn fC pA pn pC (some ⟨b, off, none⟩) en eC ∧ Blk wi bx 88 #[.string x, .string y]) ∧ ∃ m : Nat, m ≤ y.size ∧ i = .int .i64 m ∧ Hid (∀ j, j < m → tmInk (bt y.data.toList j) = true)) (fun i _ => y.size - (intOf i).toNat)
              case atStart => exact ⟨⟨hSx.drewN _, hBx.drewN _⟩, 0, by omega, rfl, Lib.hid (fun j h => by omega)⟩
              case round =>
                obtain ⟨⟨hSi, hBi⟩, m, hm, rfl, HI⟩ := hrel
                clear hSx hBx
                have d1 := (Blk.cell hBi 1).trans rfl
                by_cases hml : m < y.size
                · have hdm : decide ((m : Int) < y.size) = true := decide_eq_true (by omega)
                  have hm0 : (0 : Int) ≤ m := by omega
                  have hm1 : (m : Int) < y.size := by omega
                  have HC := Lib.hid (getElem_bt hml)
                  obtain ⟨ch, hch⟩ : ∃ c : Int, ((y[m]'hml).toNat : Int) = c := ⟨_, rfl⟩
                  have HC2 : Hid (bt y.data.toList m = ch) := Lib.hid (by rw [← hch]; exact HC.out.symm)
                  rcases tm_cases ch with ⟨ht, n1, n2, n3, n4⟩ | ⟨ht, hq⟩
                  · have HF : Hid (∀ j, j < m + 1 → tmInk (bt y.data.toList j) = true) := Lib.hid (fun j hj => by
                      by_cases e : j = m
                      · rw [e, HC2.out]; exact ht
                      · exact HI.out j (by omega))
                    clear ht HI
                    go_wp2_with fail
                    exact ⟨⟨⟨hSi, hBi⟩, m + 1, by omega, rfl, HF⟩, by (simp only [intOf]; omega)⟩
                  · have HF : Hid (extraB es ps = false) := Lib.hid ((HNO True).out (by rw [HY2.out, inks_no (p := tmInk) (l := y.data.toList) (k := m) (by have := HLY.out; omega) (by rw [HC2.out]; exact ht)]; rfl))
                    clear ht HI
                    rcases hq with n1 | ⟨n1, n2⟩ | ⟨n1, n2, n3⟩ | ⟨n1, n2, n3, n4⟩
                    all_goals
                      go_wp2_with fail
                      go_ret
                      exact ⟨ret_bool HF.out.symm, by first | exact hSi.l | (rw [← hg]; exact hSi.l)⟩
                · have hdm : decide ((m : Int) < y.size) = false := decide_eq_false (by omega)
                  have HY3 : Hid (extraAt ps es k = decide (cntL (lbsT ps) x = 0)) := Lib.hid (by
                    have h1 : inksB tmInk y.data.toList = true := by
                      rw [inks_yes (fun j hj => HI.out j (by have := HLY.out; omega)), some_len]; exact decide_eq_true (by omega)
                    rw [HY2.out, h1]; rfl)
                  clear HI HY2
                  go_wp2_with fail
                  clear d1
                  go_loopw [9] (fun i wi => (XS w wi g fA fn fC pA pn pC (some ⟨b, off, none⟩) en eC ∧ Blk wi bx 88 #[.string x, .string y]) ∧ ∃ m : Nat, m ≤ pn ∧ i = .int .i64 m ∧ Hid (∀ j z, j < m → ps[j]? = some z → isLb z = true → z.data.toList ≠ x.data.toList)) (fun i _ => pn - (intOf i).toNat)
                  case atStart => exact ⟨⟨hSi, hBi⟩, 0, by omega, rfl, Lib.hid (fun j z h => by omega)⟩
                  case round =>
                    obtain ⟨⟨hSj, hBj⟩, j, hj, rfl, HJ⟩ := hrel
                    clear hSi hBi
                    have c1 := (Blk.cell hSj.b 1).trans rfl
                    have d0 := (Blk.cell hBj 0).trans rfl
                    by_cases hjl : j < pn
                    · have hdj : decide ((j : Int) < (pn : Int)) = true := decide_eq_true (by omega)
                      have hj0 : (0 : Int) ≤ j := by omega
                      have hj1 : (j : Int) < pn := by omega
                      obtain ⟨pb, po, z, hpA, hpb, hz3, z0⟩ := str_at (hp.bel hSj.l) hjl
                      rw [hpA] at c1
                      have HZ := Lib.hid hz3
                      have kL : ∀ W, Calls Try.prog 67 #[.string z] W fun e w' => e = .returned (.bool (isLb z)) ∧ W = w' := fun W => (risLabel_any z W).mono fun _ _ ⟨h1, h2⟩ => ⟨h1, h2.symm⟩
                      have HZX : Hid ((z.toList == x.toList) = (z.data.toList == x.data.toList)) := Lib.hid (by rw [ByteArray.toList_eq, ByteArray.toList_eq])
                      obtain ⟨ql, hql⟩ : ∃ ql, isLb z = ql := ⟨_, rfl⟩
                      rw [hql] at kL
                      have HQL := Lib.hid hql
                      clear hz3 hql hpA
                      by_cases hbad : ql = true ∧ (z.toList == x.toList) = true
                      · obtain ⟨rfl, hzx⟩ := hbad
                        have HF : Hid (extraB es ps = false) := Lib.hid ((HNO True).out (by
                          rw [HY3.out, decide_eq_false_iff_not]
                          intro hc0
                          exact cntL_parts.1 hc0 j z (by have := HPL.out; omega) HZ.out HQL.out (by have := HZX.out; rw [hzx] at this; exact eq_of_beq this.symm)))
                        clear HJ HQL
                        go_wp2_with fail
                        go_quiet (first | (go_at_call 67; exact quiet_left (kL _)))
                        go_wp2_with fail
                        go_ret
                        exact ⟨ret_bool HF.out.symm, by first | exact bl_drewN hSj.l _ | (rw [← hg]; exact bl_drewN hSj.l _)⟩
                      · have HF : Hid (∀ i z, i < j + 1 → ps[i]? = some z → isLb z = true → z.data.toList ≠ x.data.toList) := Lib.hid (fun i u hi hu hlu => by
                          by_cases e : i = j
                          · subst e; rw [HZ.out] at hu; injection hu with hu; subst hu
                            intro he2
                            exact hbad ⟨by rw [← HQL.out]; exact hlu, by rw [HZX.out, he2]; simp⟩
                          · exact HJ.out i u (by omega) hu hlu)
                        have hpos : ql = false ∨ (ql = true ∧ (z.toList == x.toList) = false) := by
                          cases ql
                          · exact .inl rfl
                          · refine .inr ⟨rfl, ?_⟩
                            cases h : (z.toList == x.toList)
                            · rfl
                            · exact absurd ⟨rfl, h⟩ hbad
                        clear HJ HQL hbad
                        rcases hpos with rfl | ⟨rfl, hzx⟩
                        all_goals
                          go_wp2_with fail
                          go_quiet (first | (go_at_call 67; exact quiet_left (kL _)))
                          go_wp2_with fail
                          exact ⟨⟨⟨hSj.drewN _, hBj.drewN _⟩, j + 1, by omega, rfl, HF⟩, by (simp only [intOf]; omega)⟩
                    · have hdj : decide ((j : Int) < (pn : Int)) = false := decide_eq_false (by omega)
                      have HG2 : Hid (extraTo ps es (k + 1) = true) := Lib.hid (by
                        rw [extraTo_succ, HG.out, HY3.out, Bool.true_and, decide_eq_true_eq, cntL_parts]
                        exact fun i z hi hz hl => HJ.out i z (by have := HPL.out; omega) hz hl)
                      clear HJ HG HY3
                      go_wp2_with fail
                      exact ⟨⟨hSj, k + 1, by omega, rfl, HG2⟩, by (simp only [intOf]; omega)⟩
        · have hd : decide ((k : Int) < en) = false := decide_eq_false (by omega)
          obtain rfl : k = en := by omega
          have HF : Hid (extraB es ps = decide (k + M ≤ 8)) := Lib.hid (by
            have e1 := HEL.out
            have e2 := HMM.out
            rw [extra_end (by rw [e1]; exact HG.out), e1, e2])
          have hwS : IntKind.i64.wrap ((M : Int) + (k : Int)) = (M : Int) + (k : Int) := IntWalk.i64_in _ (by omega)
          go_wp2_with fail
          go_ret
          exact ⟨ret_bool (by rw [HF.out]; apply bcl; simp; omega), by first | exact hSr.l | (rw [← hg]; exact hSr.l)⟩
end Go.Proofs.Ytjffagffjcbolaa
