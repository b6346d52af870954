/- The walks of the reference's configurations: Check, fair. -/
import Derived.Test.YtjffagffjcbolaaRgC
namespace Go.Proofs.Ytjffagffjcbolaa
set_option linter.unusedVariables false
set_option linter.unusedSimpArgs false
open Go.RowKit
def fairOne (r : MRule) : Bool := decide (r.filter.length ≤ 20) && (decide (r.parts.length ≤ 20) && decide (r.extra.length ≤ 12))
def fairB (rs : List VRule) : Bool := (rs.all fun x => fairOne x.rule) && decide (rs.length ≤ 9)
set_option maxRecDepth 100000 in
set_option maxHeartbeats 1600000 in
theorem fair29_any (x : VCfg) (w : World) (hl : IsRows ruleC 3 w w.heap.size x.A x.rules.length x.rules) (hn : x.rules.length ≤ 9223372036854775807) :
    Calls Try.prog 10 #[.agg #[.int .i64 x.protos, .int .i64 x.bytes, .int .i64 x.points, .int .i64 x.store, .int .i64 x.mode, .int .i64 x.unit, .slice x.A x.rules.length x.c]] w fun e w' => e = .returned (.bool (fairB x.rules)) ∧ Below w.heap.size w w' := by
  obtain ⟨p, q, s, t, m, u, A, C, xs⟩ := x
  simp only at *
  have hA : Below w.heap.size w (w.alloc (.cells #[.int .i64 p, .int .i64 q, .int .i64 s, .int .i64 t, .int .i64 m, .int .i64 u, .slice A xs.length C] 30)) := bl_alloc (Below.refl _ _) _
  have hB := Blk.new w 30 #[.int .i64 p, .int .i64 q, .int .i64 s, .int .i64 t, .int .i64 m, .int .i64 u, .slice A xs.length C]
  have c6 := (Blk.cell hB 6).trans rfl
  have hl1 := hl.bel hA
  clear hl hB
  generalize hxl : xs.length = n at *
  have HXL := Lib.hid hxl
  clear hxl
  go_enter Try.func10, Try.ntmps10
  go_upto_region 1 with (fail)
  generalize w.alloc (.cells #[.int .i64 p, .int .i64 q, .int .i64 s, .int .i64 t, .int .i64 m, .int .i64 u, .slice A n C] 30) = W at *
  go_wp2_with fail
  go_loop [3] (fun i => ∃ k : Nat, k ≤ n ∧ k ≤ 9 ∧ i = .int .i64 k ∧ Hid (∀ j x, j < k → xs[j]? = some x → fairOne x.rule = true)) (fun i => n - (intOf i).toNat)
  case atStart => exact ⟨0, by omega, by omega, rfl, Lib.hid (fun j x h => by omega)⟩
  case round =>
    obtain ⟨k, hk, hk9, rfl, HG⟩ := hrel
    by_cases hlt : k < n
    · have hdk : decide ((k : Int) < (n : Int)) = true := decide_eq_true (by omega)
      have hk0 : (0 : Int) ≤ k := by omega
      have hk1 : (k : Int) < (n : Int) := by omega
      obtain ⟨b, off, rfl, hb, hcs⟩ := hl1.2 (by omega)
      obtain ⟨X, hX⟩ : ∃ X, xs[k]? = some X := ⟨_, List.getElem?_eq_getElem (by have := HXL.out; omega)⟩
      have q0 : W.cell? ⟨b, off + k * 3, none⟩ = some (.slice X.fA X.rule.filter.length X.fC) := hcs k X 0 _ hX rfl
      have q1 : W.cell? ⟨b, off + k * 3 + 1, none⟩ = some (.slice X.pA X.rule.parts.length X.pC) := hcs k X 1 _ hX rfl
      have q2 : W.cell? ⟨b, off + k * 3 + 2, none⟩ = some (.slice X.eA X.rule.extra.length X.eC) := hcs k X 2 _ hX rfl
      have HO : Hid (fairOne X.rule = (decide (X.rule.filter.length ≤ 20) && (decide (X.rule.parts.length ≤ 20) && decide (X.rule.extra.length ≤ 12)))) := Lib.hid rfl
      have HN : fairOne X.rule = false → Hid (fairB xs = false) := fun h => Lib.hid (by
        unfold fairB
        have : (xs.all fun x => fairOne x.rule) = false := List.all_eq_false.2 ⟨X, List.mem_of_getElem? hX, by rw [h]; simp⟩
        rw [this]; rfl)
      have HY : fairOne X.rule = true → Hid (∀ j x, j < k + 1 → xs[j]? = some x → fairOne x.rule = true) := fun h => Lib.hid (fun j y hj hy => by
        by_cases e : j = k
        · subst e; rw [hX] at hy; injection hy with hy; rw [← hy]; exact h
        · exact HG.out j y (by omega) hy)
      clear HG hcs hX
      by_cases h8 : k ≤ 8
      rotate_left
      · have d8 : decide ((8 : Int) < (k : Int)) = true := decide_eq_true (by omega)
        have d8n : decide (8 < k) = true := decide_eq_true (by omega)
        have HF : Hid (fairB xs = false) := Lib.hid (by
          unfold fairB
          have : decide (xs.length ≤ 9) = false := decide_eq_false (by have := HXL.out; omega)
          rw [this, Bool.and_false])
        clear HN HY HO
        go_wp2_with fail
        go_ret
        exact ⟨ret_bool HF.out.symm, hA⟩
      have d8 : decide ((8 : Int) < (k : Int)) = false := decide_eq_false (by omega)
      have d8n : decide (8 < k) = false := decide_eq_false (by omega)
      by_cases h1 : X.rule.filter.length ≤ 20
      · have d1 : decide ((20 : Int) < (X.rule.filter.length : Int)) = false := decide_eq_false (by omega)
        by_cases h2 : X.rule.parts.length ≤ 20
        · have d2 : decide ((20 : Int) < (X.rule.parts.length : Int)) = false := decide_eq_false (by omega)
          by_cases h3 : X.rule.extra.length ≤ 12
          · have d3 : decide ((12 : Int) < (X.rule.extra.length : Int)) = false := decide_eq_false (by omega)
            have HF := HY (by rw [HO.out]; simp [h1, h2, h3])
            clear HN HY HO h1 h2 h3
            go_wp2_with fail
            exact ⟨⟨k + 1, by omega, by omega, rfl, HF⟩, by (simp only [intOf]; omega)⟩
          · have d3 : decide ((12 : Int) < (X.rule.extra.length : Int)) = true := decide_eq_true (by omega)
            have HF := HN (by rw [HO.out]; simp [h3])
            clear HN HY HO h1 h2 h3
            go_wp2_with fail
            go_ret
            exact ⟨ret_bool HF.out.symm, hA⟩
        · have d2 : decide ((20 : Int) < (X.rule.parts.length : Int)) = true := decide_eq_true (by omega)
          have HF := HN (by rw [HO.out]; simp [h2])
          clear HN HY HO h1 h2
          go_wp2_with fail
          go_ret
          exact ⟨ret_bool HF.out.symm, hA⟩
      · have d1 : decide ((20 : Int) < (X.rule.filter.length : Int)) = true := decide_eq_true (by omega)
        have HF := HN (by rw [HO.out]; simp [h1])
        clear HN HY HO h1
        go_wp2_with fail
        go_ret
        exact ⟨ret_bool HF.out.symm, hA⟩
    · have hdk : decide ((k : Int) < (n : Int)) = false := decide_eq_false (by omega)
      have HF : Hid (fairB xs = true) := Lib.hid (by
        unfold fairB
        have e := HXL.out
        rw [decide_eq_true (by omega), Bool.and_true, List.all_eq_true]
        intro x hx
        obtain ⟨j, hj, rfl⟩ := List.getElem_of_mem hx
        exact HG.out j _ (by omega) (List.getElem?_eq_getElem hj))
      clear HG
      go_wp2_with fail
      go_ret
      exact ⟨ret_bool HF.out.symm, hA⟩
theorem proto_neg {p : Int} (h : p < 0) (h1 : -9223372036854775808 ≤ p) : (bits .andNot .i64 p 30 == 0) = false := by
  rw [beq_eq_false_iff_ne]
  intro h0
  have e : bits .andNot .i64 p 30 = IntKind.i64.wrap ((BitVec.ofInt 64 p &&& ~~~(BitVec.ofInt 64 30)).toNat : Int) := rfl
  rw [e] at h0
  have hb : (BitVec.ofInt 64 p &&& ~~~(BitVec.ofInt 64 30)).getLsbD 63 = true := by
    rw [BitVec.getLsbD_and, BitVec.getLsbD_not]
    have h30 : (BitVec.ofInt 64 30).getLsbD 63 = false := by decide
    rw [h30]
    have h2 : (BitVec.ofInt 64 p).toNat = (p + 18446744073709551616).toNat := by
      rw [BitVec.toNat_ofInt]
      congr 1
      show p % 18446744073709551616 = _
      omega
    have h3 : (BitVec.ofInt 64 p).getLsbD 63 = true := by
      show (BitVec.ofInt 64 p).toNat.testBit 63 = true
      rw [h2, Nat.testBit_eq_decide_div_mod_eq, decide_eq_true_eq]
      show (p + 18446744073709551616).toNat / 9223372036854775808 % 2 = 1
      omega
    rw [h3]; rfl
  have hn : 9223372036854775808 ≤ (BitVec.ofInt 64 p &&& ~~~(BitVec.ofInt 64 30)).toNat := Nat.ge_two_pow_of_testBit hb
  have hl := (BitVec.ofInt 64 p &&& ~~~(BitVec.ofInt 64 30)).isLt
  generalize (BitVec.ofInt 64 p &&& ~~~(BitVec.ofInt 64 30)).toNat = N at *
  simp [IntKind.wrap, IntKind.bits, IntKind.signed] at h0
  omega
set_option maxRecDepth 100000 in
set_option maxHeartbeats 6400000 in
theorem rcheck_any (x : VCfg) (w : World) (h : CfgAt w w.heap.size x) (hpn : -9223372036854775808 ≤ x.protos) :
    Calls Try.prog 21 #[.agg #[.int .i64 x.protos, .int .i64 x.bytes, .int .i64 x.points, .int .i64 x.store, .int .i64 x.mode, .int .i64 x.unit, .slice x.A x.rules.length x.c]] w fun e w' => e = .returned (.int .i64 (cfgE x : Nat)) ∧ Below w.heap.size w w' := by
  have hbA := (Below.refl w.heap.size w).alloc (Nat.le_refl _) (.cells #[.int .i64 x.protos, .int .i64 x.bytes, .int .i64 x.points, .int .i64 x.store, .int .i64 x.mode, .int .i64 x.unit, .slice x.A x.rules.length x.c] 30)
  have hB := Blk.new w 30 #[.int .i64 x.protos, .int .i64 x.bytes, .int .i64 x.points, .int .i64 x.store, .int .i64 x.mode, .int .i64 x.unit, .slice x.A x.rules.length x.c]
  have c0 := (Blk.cell hB 0).trans rfl
  have c1 := (Blk.cell hB 1).trans rfl
  have c2 := (Blk.cell hB 2).trans rfl
  have c3 := (Blk.cell hB 3).trans rfl
  have c4 := (Blk.cell hB 4).trans rfl
  have c5 := (Blk.cell hB 5).trans rfl
  have c6 := (Blk.cell hB 6).trans rfl
  have hA := h.bel hbA
  have hlen := h.len
  have HE : Hid (cfgE x = if cfgB x then 0 else 19) := Lib.hid rfl
  have HB : Hid (cfgB x = (protoB x.protos && (betw 1 4000 x.bytes && (betw 1 120 x.points && (betw 1 120 x.store && (betw 0 1 x.mode && (betw 0 3 x.unit && (decide (x.rules.length ≤ 6) && !(x.rules.any wrongR))))))))) := Lib.hid rfl
  have HP : Hid (protoB x.protos = (bits .andNot .i64 x.protos 30 == 0)) := Lib.hid rfl
  have HPN : x.protos < 0 → Hid ((bits .andNot .i64 x.protos 30 == 0) = false) := fun hq => Lib.hid (proto_neg hq hpn)
  clear h
  go_enter Try.func21, Try.ntmps21
  go_upto_region 1 with (fail)
  generalize w.alloc (.cells #[.int .i64 x.protos, .int .i64 x.bytes, .int .i64 x.points, .int .i64 x.store, .int .i64 x.mode, .int .i64 x.unit, .slice x.A x.rules.length x.c] 30) = W at *
  have d6 : decide ((6 : Int) < (x.rules.length : Int)) = !decide (x.rules.length ≤ 6) := by
    by_cases h : x.rules.length ≤ 6
    · rw [decide_eq_true h]; exact decide_eq_false (by omega)
    · rw [decide_eq_false h]; exact decide_eq_true (by omega)
  have d6n : decide (6 < x.rules.length) = !decide (x.rules.length ≤ 6) := by
    by_cases h : x.rules.length ≤ 6
    · rw [decide_eq_true h]; exact decide_eq_false (by omega)
    · rw [decide_eq_false h]; exact decide_eq_true (by omega)
  by_cases hp0 : x.protos < 0
  · have d0 : decide (x.protos < 0) = true := decide_eq_true hp0
    have HX : Hid (cfgE x = 19) := Lib.hid (by rw [HE.out, HB.out, HP.out, (HPN hp0).out]; rfl)
    clear HE HB HP HPN
    go_wp2_with fail
    go_ret
    exact ⟨by rw [HX.out]; rfl, hbA⟩
  have d0 : decide (x.protos < 0) = false := decide_eq_false hp0
  clear HPN hp0 hpn
  cases hp : (bits .andNot .i64 x.protos 30 == 0)
  · have hp2 : (bits .andNot .i64 x.protos 30 != 0) = true := by rw [bne, hp]; rfl
    have HX : Hid (cfgE x = 19) := Lib.hid (by rw [HE.out, HB.out, HP.out, hp]; rfl)
    clear HE HB HP
    go_wp2_with fail
    go_ret
    exact ⟨by rw [HX.out]; rfl, hbA⟩
  have hp2 : (bits .andNot .i64 x.protos 30 != 0) = false := by rw [bne, hp]; rfl
  rw [hp] at HP
  rcases bet_cases 1 4000 x.bytes (by decide) with ⟨hb, b1, b2⟩ | ⟨hb, hq⟩
  rotate_left
  · have HX : Hid (cfgE x = 19) := Lib.hid (by rw [HE.out, HB.out, HP.out, hb]; rfl)
    clear HE HB HP hb
    rcases hq with b1 | ⟨b1, b2⟩
    all_goals
      go_wp2_with fail
      go_ret
      exact ⟨by rw [HX.out]; rfl, hbA⟩
  rcases bet_cases 1 120 x.points (by decide) with ⟨hpt, p1, p2⟩ | ⟨hpt, hq⟩
  rotate_left
  · have HX : Hid (cfgE x = 19) := Lib.hid (by rw [HE.out, HB.out, HP.out, hb, hpt]; rfl)
    clear HE HB HP hb hpt
    rcases hq with p1 | ⟨p1, p2⟩
    all_goals
      go_wp2_with fail
      go_ret
      exact ⟨by rw [HX.out]; rfl, hbA⟩
  rcases bet_cases 1 120 x.store (by decide) with ⟨hst, s1, s2⟩ | ⟨hst, hq⟩
  rotate_left
  · have HX : Hid (cfgE x = 19) := Lib.hid (by rw [HE.out, HB.out, HP.out, hb, hpt, hst]; rfl)
    clear HE HB HP hb hpt hst
    rcases hq with s1 | ⟨s1, s2⟩
    all_goals
      go_wp2_with fail
      go_ret
      exact ⟨by rw [HX.out]; rfl, hbA⟩
  rcases mode_cases x.mode with ⟨hm, hmq⟩ | ⟨hm, m1, m2, m3, m4⟩
  rotate_left
  · have HX : Hid (cfgE x = 19) := Lib.hid (by rw [HE.out, HB.out, HP.out, hb, hpt, hst, hm]; rfl)
    clear HE HB HP hb hpt hst hm
    go_wp2_with fail
    go_ret
    exact ⟨by rw [HX.out]; rfl, hbA⟩
  rcases bet_cases 0 3 x.unit (by decide) with ⟨hu, u1, u2⟩ | ⟨hu, hq⟩
  rotate_left
  · have HX : Hid (cfgE x = 19) := Lib.hid (by rw [HE.out, HB.out, HP.out, hb, hpt, hst, hm, hu]; rfl)
    clear HE HB HP hb hpt hst hm hu
    rcases hmq with ⟨m1, m2⟩ | ⟨m1, m2, m3, m4⟩ <;> rcases hq with u1 | ⟨u1, u2⟩
    all_goals
      go_wp2_with fail
      go_ret
      exact ⟨by rw [HX.out]; rfl, hbA⟩
  cases hl : decide (x.rules.length ≤ 6)
  · have HX : Hid (cfgE x = 19) := Lib.hid (by rw [HE.out, HB.out, HP.out, hb, hpt, hst, hm, hu, hl]; rfl)
    rw [hl] at d6 d6n
    simp only [Bool.not_false] at d6 d6n
    clear HE HB HP hb hpt hst hm hu hl
    rcases hmq with ⟨m1, m2⟩ | ⟨m1, m2, m3, m4⟩
    all_goals
      go_wp2_with fail
      go_ret
      exact ⟨by rw [HX.out]; rfl, hbA⟩
  have HX : Hid (cfgE x = if x.rules.any wrongR then 19 else 0) := Lib.hid (by rw [HE.out, HB.out, HP.out, hb, hpt, hst, hm, hu, hl]; cases x.rules.any wrongR <;> rfl)
  rw [hl] at d6 d6n
  simp only [Bool.not_true] at d6 d6n
  clear HE HB HP hb hpt hst hm hu hl
  rcases hmq with ⟨m1, m2⟩ | ⟨m1, m2, m3, m4⟩
  all_goals
    go_wp2_with fail
    go_loopw [4] (fun i wr => Below W.heap.size W wr ∧ ∃ k : Nat, k ≤ x.rules.length ∧ i = .int .i64 k ∧ Hid (∀ j y, j < k → x.rules[j]? = some y → wrongR y = false)) (fun i _ => x.rules.length - (intOf i).toNat)
    case atStart => exact ⟨Below.refl _ _, 0, by omega, rfl, Lib.hid (fun j x h => by omega)⟩
    case round =>
      obtain ⟨hbw, k, hk, rfl, HG⟩ := hrel
      have e6 := (Blk.cell (Blk.below hB hbw (Blk.lt hB)) 6).trans rfl
      have hW : Below w.heap.size w wr := hbA.trans (hbw.mono hbA.size)
      by_cases hlt : k < x.rules.length
      · have hdk : decide ((k : Int) < (x.rules.length : Int)) = true := decide_eq_true (by omega)
        have hk0 : (0 : Int) ≤ k := by omega
        have hk1 : (k : Int) < (x.rules.length : Int) := by omega
        have hAr := hA.bel hbw
        obtain ⟨b, off, hxA, hb, hcs⟩ := hAr.rows.2 (by omega)
        rw [hxA] at e6
        obtain ⟨X, hX⟩ : ∃ X, x.rules[k]? = some X := ⟨_, List.getElem?_eq_getElem (by omega)⟩
        obtain ⟨hra, hok⟩ := hAr.each X (List.mem_of_getElem? hX)
        have q0 : wr.cell? ⟨b, off + k * 3, none⟩ = some (.slice X.fA X.rule.filter.length X.fC) := hcs k X 0 _ hX rfl
        have q1 : wr.cell? ⟨b, off + k * 3 + 1, none⟩ = some (.slice X.pA X.rule.parts.length X.pC) := hcs k X 1 _ hX rfl
        have q2 : wr.cell? ⟨b, off + k * 3 + 2, none⟩ = some (.slice X.eA X.rule.extra.length X.eC) := hcs k X 2 _ hX rfl
        have kW := rgood_any X wr hra hok
        have HV : Hid (wrongR X = !goodR X.rule) := Lib.hid rfl
        clear hcs hra hok hAr hxA
        cases hq : goodR X.rule
        · rw [hq] at kW HV
          have HF : Hid (cfgE x = 19) := Lib.hid (by rw [HX.out, List.any_eq_true.2 ⟨X, List.mem_of_getElem? hX, HV.out⟩]; rfl)
          clear hq HG hX HV
          go_wp2_with (go_at_call 36; (with_reducible refine kW.mono ?_); rintro e w1 ⟨rfl, hb1⟩)
          go_ret
          exact ⟨by rw [HF.out]; rfl, hW.trans (hb1.mono hW.size)⟩
        · rw [hq] at kW HV
          have HF : Hid (∀ j y, j < k + 1 → x.rules[j]? = some y → wrongR y = false) := Lib.hid (fun j y hj hy => by
            by_cases e : j = k
            · subst e; rw [hX] at hy; injection hy with hy; rw [← hy]; exact HV.out
            · exact HG.out j y (by omega) hy)
          clear hq HG hX HV
          go_wp2_with (go_at_call 36; (with_reducible refine kW.mono ?_); rintro e w1 ⟨rfl, hb1⟩)
          exact ⟨⟨bl_any hbw hb1, k + 1, by omega, rfl, HF⟩, by (simp only [intOf]; omega)⟩
      · have hdk : decide ((k : Int) < (x.rules.length : Int)) = false := decide_eq_false (by omega)
        have HF : Hid (cfgE x = 0) := Lib.hid (by
          have : x.rules.any wrongR = false := by
            rw [List.any_eq_false]
            intro y hy
            obtain ⟨j, hj, rfl⟩ := List.getElem_of_mem hy
            rw [HG.out j _ (by omega) (List.getElem?_eq_getElem hj)]; simp
          rw [HX.out, this]; rfl)
        clear HG
        go_wp2_with fail
        go_ret
        exact ⟨by rw [HF.out]; rfl, hW⟩
end Go.Proofs.Ytjffagffjcbolaa
