/- Tenants: a configuration with one part that may not be: the walk of TenantSpoils. -/
import Derived.Test.YtjffagffjcbolaaTenM
namespace Go.Proofs.Ytjffagffjcbolaa
set_option linter.unusedVariables false
set_option linter.unusedSimpArgs false
open Go.RowKit
def spS : ByteArray := ⟨#[109, 101, 116, 114, 105, 99]⟩
def spR (g0 : Nat) : VRule := ⟨⟨[], [⟨#[109, 101, 116, 114, 105, 99]⟩], []⟩, none, 0, some ⟨g0, 0, none⟩, 1, none, 0⟩
def spC (g1 : Nat) (R : VRule) : VCfg := ⟨30, 4000, 120, 120, 1, 3, some ⟨g1, 0, none⟩, 1, [R]⟩
theorem sp_good (g0 : Nat) : wrongR (spR g0) = false := by
  have h : goodR ⟨[], [⟨#[109, 101, 116, 114, 105, 99]⟩], []⟩ = true := by decide +kernel
  show (!(goodR ⟨[], [⟨#[109, 101, 116, 114, 105, 99]⟩], []⟩)) = false
  rw [h]; rfl
theorem spC_nums : (protoB 30 && (betw 1 4000 4000 && (betw 1 120 120 && (betw 1 120 120 && (betw 0 1 1 && (betw 0 3 3 && decide (1 ≤ 6))))))) = true := by decide +kernel
theorem spC_ok {g1 : Nat} {R : VRule} (h : wrongR R = false) : cfgB (spC g1 R) = true := by
  unfold cfgB spC
  simp only [List.any_cons, List.any_nil, h, Bool.or_false, Bool.not_false, Bool.and_true, List.length_singleton]
  exact spC_nums
theorem cfg_no (D : VCfg) (h : (protoB D.protos && (betw 1 4000 D.bytes && (betw 1 120 D.points && (betw 1 120 D.store && (betw 0 1 D.mode && betw 0 3 D.unit))))) = false) : cfgB D = false := by
  unfold cfgB
  revert h
  cases protoB D.protos <;> cases betw 1 4000 D.bytes <;> cases betw 1 120 D.points <;> cases betw 1 120 D.store <;> cases betw 0 1 D.mode <;> cases betw 0 3 D.unit <;> simp
theorem spR_ok (g0 : Nat) : RuleOk (spR g0).rule := by
  refine ⟨⟨by show 0 ≤ 2097152; omega, ?_⟩, ⟨by show 1 ≤ 2097152; omega, ?_⟩, ⟨by show 0 ≤ 2097152; omega, ?_⟩⟩ <;> intro x hx
  · cases hx
  · have e : x = ⟨#[109, 101, 116, 114, 105, 99]⟩ := by simpa [spR] using hx
    subst e; decide
  · cases hx
def spR0 : VRule := ⟨⟨[], [], []⟩, none, 0, none, 0, none, 0⟩
theorem spR0_no : wrongR spR0 = true := by decide +kernel
theorem cfg_two (D : VCfg) (g0 : Nat) (h : D.rules = [spR g0, spR0]) : cfgB D = false := by
  unfold cfgB
  rw [h, List.any_cons, List.any_cons, spR0_no]
  simp
theorem cfg_seven (D : VCfg) (h : D.rules.length = 7) : cfgB D = false := by
  unfold cfgB
  rw [h]
  simp
theorem CfgAt.aw1 {w w' : World} {B b : Nat} {x : VCfg} (h : CfgAt w B x) (k : Aw [b] w w') (hB : B ≤ w.heap.size) (hb : B ≤ b) : CfgAt w' B x :=
  h.below (k.bel_of (fun i hi => by simp at hi; omega) hB)
theorem CfgAt.like {w : World} {B : Nat} {x y : VCfg} (h : CfgAt w B x) (h1 : y.rules = x.rules) (h2 : y.A = x.A) : CfgAt w B y :=
  ⟨by rw [h1, h2]; exact h.rows, by rw [h1]; exact h.each, by rw [h1]; exact h.len⟩
theorem spCheckC (g1 : Nat) (R : VRule) (w : World) (hR : wrongR R = false) (h : CfgAt w w.heap.size (spC g1 R)) : Calls Try.prog 20 #[.agg #[.int .i64 30, .int .i64 4000, .int .i64 120, .int .i64 120, .int .i64 1, .int .i64 3, .slice (some ⟨g1, 0, none⟩) 1 1]] w fun e w' => e = .returned (.int .i64 0) ∧ Below w.heap.size w w' :=
  (check_any (spC g1 R) w h).mono fun e w' ⟨h1, h2⟩ => ⟨by have e0 : cfgE (spC g1 R) = 0 := (by unfold cfgE; rw [spC_ok hR]; rfl); rw [e0] at h1; exact h1, h2⟩
theorem spCheckD (D : VCfg) (hD : cfgB D = false) (w : World) (h : CfgAt w w.heap.size D) : Calls Try.prog 20 #[.agg #[.int .i64 D.protos, .int .i64 D.bytes, .int .i64 D.points, .int .i64 D.store, .int .i64 D.mode, .int .i64 D.unit, .slice D.A D.rules.length D.c]] w fun e w' => e = .returned (.int .i64 19) ∧ Below w.heap.size w w' :=
  (check_any D w h).mono fun e w' ⟨h1, h2⟩ => ⟨by have e0 : cfgE D = 19 := (by unfold cfgE; rw [hD]; rfl); rw [e0] at h1; exact h1, h2⟩
theorem spMini (w : World) : Calls Try.prog 20 #[.agg #[.int .i64 0, .int .i64 1, .int .i64 1, .int .i64 1, .int .i64 0, .int .i64 0, .slice none 0 0]] w fun e w' => e = .returned (.int .i64 0) ∧ Below w.heap.size w w' :=
  (check_any nC w (nC_at w)).mono fun e w' ⟨h1, h2⟩ => ⟨by have e0 : cfgE nC = 0 := (by decide +kernel); rw [e0] at h1; exact h1, h2⟩
section
variable {w0 w : World} {p b : Nat}
theorem spAddD (D : VCfg) (hD : cfgB D = false) (h : KS w0 w p b []) (hc : CfgAt w w.heap.size D) : Calls Try.prog 11 #[.pointer (some ⟨p, 0, none⟩), .string ⟨#[116]⟩, .agg #[.int .i64 D.protos, .int .i64 D.bytes, .int .i64 D.points, .int .i64 D.store, .int .i64 D.mode, .int .i64 D.unit, .slice D.A D.rules.length D.c]] w fun e w' => e = .returned (.int .i64 19) ∧ KS w0 w' p b [] ∧ Aw [b] w w' :=
  (badd_any p b [] ⟨#[116]⟩ D w h.bk (by decide) (by decide) hc (by simp)).mono fun e w' ⟨h1, h2, h3⟩ => by
    have e0 : addE [] (⟨#[116]⟩ : ByteArray).data.toList D = 19 := by unfold addE; rw [hD]; simp
    rw [e0] at h1 h2
    unfold AddQ at h2
    rw [if_neg (by decide)] at h2
    exact ⟨h1, h.aw h3 h2, h3⟩
theorem spAddC (g1 : Nat) (R : VRule) (hR : wrongR R = false) (h : KS w0 w p b []) (hc : CfgAt w w.heap.size (spC g1 R)) : Calls Try.prog 11 #[.pointer (some ⟨p, 0, none⟩), .string ⟨#[116]⟩, .agg #[.int .i64 30, .int .i64 4000, .int .i64 120, .int .i64 120, .int .i64 1, .int .i64 3, .slice (some ⟨g1, 0, none⟩) 1 1]] w fun e w' => e = .returned (.int .i64 0) ∧ Below w0.heap.size w0 w' ∧ w0.heap.size ≤ w'.heap.size :=
  (badd_any p b [] ⟨#[116]⟩ (spC g1 R) w h.bk (by decide) (by decide) hc (by simp)).mono fun e w' ⟨h1, h2, h3⟩ => by
    have e0 : addE [] (⟨#[116]⟩ : ByteArray).data.toList (spC g1 R) = 0 := by
      have h5 : tnameB (⟨#[116]⟩ : ByteArray).data.toList = true := by decide +kernel
      unfold addE; rw [spC_ok hR, h5]; rfl
    rw [e0] at h1
    have hb : Below w0.heap.size w0 w' := h.bl.trans (h3.bel_of (fun i hi => by simp at hi; subst hi; exact h.pb) h.bl.size)
    exact ⟨h1, hb, hb.size⟩
end
theorem rows7 (R : VRule) (k : Nat) : (List.replicate k R).flatMap ruleC ++ ruleC R = (List.replicate (k + 1) R).flatMap ruleC := by
  rw [List.replicate_succ', List.flatMap_append]; simp
set_option maxRecDepth 100000 in
set_option maxHeartbeats 25600000 in
theorem spoils29_any (h : Int) (w : World) (h0 : 0 ≤ h) (h1 : h ≤ 255) : Calls Try.prog 5 #[.int .u8 h] w fun e w' => e = .returned (.bool true) ∧ Below w.heap.size w w' := by
  have kK := fun W => known29_any W
  obtain ⟨r, hq⟩ : ∃ r : Nat, h.tmod 14 = (r : Int) := ⟨(h.tmod 14).toNat, by rw [Int.toNat_of_nonneg]; rw [Int.tmod_eq_emod_of_nonneg h0]; omega⟩
  have hr14 : r < 14 := by rw [Int.tmod_eq_emod_of_nonneg h0] at hq; omega
  go_enter Try.func5, Try.ntmps5
  go_upto_region 5 with (go_at_call 7; (with_reducible refine (kK _).mono ?_); rintro e w1 ⟨rfl, hb1⟩)
  have hz1 : (w1.alloc (.cells #[.string ⟨#[109, 101, 116, 114, 105, 99]⟩] 9)).heap.size = w1.heap.size + 1 := by simp
  have hR1 : RuleAt (w1.alloc (.cells #[.string ⟨#[109, 101, 116, 114, 105, 99]⟩] 9)) (w1.alloc (.cells #[.string ⟨#[109, 101, 116, 114, 105, 99]⟩] 9)).heap.size (spR w1.heap.size) :=
    ⟨IsRows.nil_, IsRows.made (f := strCell) (fun _ => rfl) w1 _ _ [⟨#[109, 101, 116, 114, 105, 99]⟩] rfl, IsRows.nil_⟩
  have hrow := IsRows.made (f := ruleC) (size := 3) (fun _ => rfl) (w1.alloc (.cells #[.string ⟨#[109, 101, 116, 114, 105, 99]⟩] 9)) 63 #[.slice none 0 0, .slice (some ⟨w1.heap.size, 0, none⟩) 1 1, .slice none 0 0] [spR w1.heap.size] rfl
  rw [hz1] at hrow
  have hz2 : ((w1.alloc (.cells #[.string ⟨#[109, 101, 116, 114, 105, 99]⟩] 9)).alloc (.cells #[.slice none 0 0, .slice (some ⟨w1.heap.size, 0, none⟩) 1 1, .slice none 0 0] 63)).heap.size = w1.heap.size + 1 + 1 := by simp
  have hz3 : (((w1.alloc (.cells #[.string ⟨#[109, 101, 116, 114, 105, 99]⟩] 9)).alloc (.cells #[.slice none 0 0, .slice (some ⟨w1.heap.size, 0, none⟩) 1 1, .slice none 0 0] 63)).alloc (.cells #[.int .i64 30, .int .i64 4000, .int .i64 120, .int .i64 120, .int .i64 1, .int .i64 3, .slice (some ⟨w1.heap.size + 1, 0, none⟩) 1 1] 30)).heap.size = w1.heap.size + 1 + 1 + 1 := by simp
  have hz4 : ((((w1.alloc (.cells #[.string ⟨#[109, 101, 116, 114, 105, 99]⟩] 9)).alloc (.cells #[.slice none 0 0, .slice (some ⟨w1.heap.size, 0, none⟩) 1 1, .slice none 0 0] 63)).alloc (.cells #[.int .i64 30, .int .i64 4000, .int .i64 120, .int .i64 120, .int .i64 1, .int .i64 3, .slice (some ⟨w1.heap.size + 1, 0, none⟩) 1 1] 30)).alloc (.cells #[.int .i64 30, .int .i64 4000, .int .i64 120, .int .i64 120, .int .i64 1, .int .i64 3, .slice (some ⟨w1.heap.size + 1, 0, none⟩) 1 1] 30)).heap.size = w1.heap.size + 1 + 1 + 2 := by simp
  have hC2 : CfgAt ((w1.alloc (.cells #[.string ⟨#[109, 101, 116, 114, 105, 99]⟩] 9)).alloc (.cells #[.slice none 0 0, .slice (some ⟨w1.heap.size, 0, none⟩) 1 1, .slice none 0 0] 63)) (w1.heap.size + 1 + 1) (spC (w1.heap.size + 1) (spR w1.heap.size)) := by
    refine ⟨?_, ?_, by show 1 ≤ 2097152; omega⟩
    · rw [← hz2]; exact hrow
    · intro x hx
      have e : x = spR w1.heap.size := by simpa [spC] using hx
      subst e
      refine ⟨?_, spR_ok _⟩
      rw [← hz2]
      exact hR1.bel ((Below.refl _ _).alloc (Nat.le_refl _) _)
  have hc4 := (Blk.new ((w1.alloc (.cells #[.string ⟨#[109, 101, 116, 114, 105, 99]⟩] 9)).alloc (.cells #[.slice none 0 0, .slice (some ⟨w1.heap.size, 0, none⟩) 1 1, .slice none 0 0] 63)) 30 #[.int .i64 30, .int .i64 4000, .int .i64 120, .int .i64 120, .int .i64 1, .int .i64 3, .slice (some ⟨w1.heap.size + 1, 0, none⟩) 1 1]).alloc (.cells #[.int .i64 30, .int .i64 4000, .int .i64 120, .int .i64 120, .int .i64 1, .int .i64 3, .slice (some ⟨w1.heap.size + 1, 0, none⟩) 1 1] 30)
  have hd4 := Blk.new (((w1.alloc (.cells #[.string ⟨#[109, 101, 116, 114, 105, 99]⟩] 9)).alloc (.cells #[.slice none 0 0, .slice (some ⟨w1.heap.size, 0, none⟩) 1 1, .slice none 0 0] 63)).alloc (.cells #[.int .i64 30, .int .i64 4000, .int .i64 120, .int .i64 120, .int .i64 1, .int .i64 3, .slice (some ⟨w1.heap.size + 1, 0, none⟩) 1 1] 30)) 30 #[.int .i64 30, .int .i64 4000, .int .i64 120, .int .i64 120, .int .i64 1, .int .i64 3, .slice (some ⟨w1.heap.size + 1, 0, none⟩) 1 1]
  rw [hz2] at hc4
  rw [hz3] at hd4
  have hb4 : Below w.heap.size w ((((w1.alloc (.cells #[.string ⟨#[109, 101, 116, 114, 105, 99]⟩] 9)).alloc (.cells #[.slice none 0 0, .slice (some ⟨w1.heap.size, 0, none⟩) 1 1, .slice none 0 0] 63)).alloc (.cells #[.int .i64 30, .int .i64 4000, .int .i64 120, .int .i64 120, .int .i64 1, .int .i64 3, .slice (some ⟨w1.heap.size + 1, 0, none⟩) 1 1] 30)).alloc (.cells #[.int .i64 30, .int .i64 4000, .int .i64 120, .int .i64 120, .int .i64 1, .int .i64 3, .slice (some ⟨w1.heap.size + 1, 0, none⟩) 1 1] 30)) := bl_alloc (bl_alloc (bl_alloc (bl_alloc hb1 _) _) _) _
  have hC4 : CfgAt ((((w1.alloc (.cells #[.string ⟨#[109, 101, 116, 114, 105, 99]⟩] 9)).alloc (.cells #[.slice none 0 0, .slice (some ⟨w1.heap.size, 0, none⟩) 1 1, .slice none 0 0] 63)).alloc (.cells #[.int .i64 30, .int .i64 4000, .int .i64 120, .int .i64 120, .int .i64 1, .int .i64 3, .slice (some ⟨w1.heap.size + 1, 0, none⟩) 1 1] 30)).alloc (.cells #[.int .i64 30, .int .i64 4000, .int .i64 120, .int .i64 120, .int .i64 1, .int .i64 3, .slice (some ⟨w1.heap.size + 1, 0, none⟩) 1 1] 30)) (w1.heap.size + 1 + 1) (spC (w1.heap.size + 1) (spR w1.heap.size)) := hC2.below (((Below.refl _ _).alloc (by rw [hz2]; exact Nat.le_refl _) _).alloc (by rw [hz3]; omega) _)
  have hR := sp_good w1.heap.size
  have hwz := hb1.size
  clear hz1 hz2 hz3 hR1 hrow hC2 kK hb1
  generalize ((((w1.alloc (.cells #[.string ⟨#[109, 101, 116, 114, 105, 99]⟩] 9)).alloc (.cells #[.slice none 0 0, .slice (some ⟨w1.heap.size, 0, none⟩) 1 1, .slice none 0 0] 63)).alloc (.cells #[.int .i64 30, .int .i64 4000, .int .i64 120, .int .i64 120, .int .i64 1, .int .i64 3, .slice (some ⟨w1.heap.size + 1, 0, none⟩) 1 1] 30)).alloc (.cells #[.int .i64 30, .int .i64 4000, .int .i64 120, .int .i64 120, .int .i64 1, .int .i64 3, .slice (some ⟨w1.heap.size + 1, 0, none⟩) 1 1] 30)) = W4 at *
  generalize spR w1.heap.size = R at *
  obtain ⟨g2, hg2⟩ : ∃ g2, w1.heap.size + 1 + 1 = g2 := ⟨_, rfl⟩
  rw [hg2] at hc4 hd4 hC4 hz4 ⊢
  obtain ⟨g1, hg1⟩ : ∃ g1, w1.heap.size + 1 = g1 := ⟨_, rfl⟩
  rw [hg1] at hc4 hd4 hC4 ⊢
  have hwg : w.heap.size ≤ g2 := by omega
  generalize w1.heap.size = g0 at *
  have e0 := (Blk.cell hd4 0).trans rfl; have e1 := (Blk.cell hd4 1).trans rfl; have e2 := (Blk.cell hd4 2).trans rfl; have e3 := (Blk.cell hd4 3).trans rfl; have e4 := (Blk.cell hd4 4).trans rfl; have e5 := (Blk.cell hd4 5).trans rfl; have e6 := (Blk.cell hd4 6).trans rfl
  have f0 := Blk.frozen hd4 0; have f1 := Blk.frozen hd4 1; have f2 := Blk.frozen hd4 2; have f3 := Blk.frozen hd4 3; have f4 := Blk.frozen hd4 4; have f5 := Blk.frozen hd4 5; have f6 := Blk.frozen hd4 6
  have hcase : r = 0 ∨ r = 1 ∨ r = 2 ∨ r = 3 ∨ r = 4 ∨ r = 5 ∨ r = 6 ∨ r = 7 ∨ r = 8 ∨ r = 9 ∨ r = 10 ∨ r = 11 ∨ r = 12 ∨ r = 13 := by omega
  rcases hcase with rfl | rfl | rfl | rfl | rfl | rfl | rfl | rfl | rfl | rfl | rfl | rfl | rfl | rfl
  · have hq' : h.tmod 14 = 0 := hq
    clear hq hr14
    go_upto_region 37 with (fail)
    have hdV : Blk (W4.setCell ⟨g2 + 1, 0, none⟩ (.int .i64 31)) (g2 + 1) 30 #[.int .i64 31, .int .i64 4000, .int .i64 120, .int .i64 120, .int .i64 1, .int .i64 3, .slice (some ⟨g1, 0, none⟩) 1 1] := Blk.set_ hd4 0 _
    have hcV := Blk.far hc4 (p := ⟨g2 + 1, 0, none⟩) (by simp) (.int .i64 31)
    have hbV : Below w.heap.size w (W4.setCell ⟨g2 + 1, 0, none⟩ (.int .i64 31)) := bl_set hb4 (by show w.heap.size ≤ g2 + 1; omega) _
    have hAV := (Aw.refl [g2 + 1] W4).setCell (p := ⟨g2 + 1, 0, none⟩) (.inl (by simp)) (.int .i64 31)
    have hcfV : CfgAt (W4.setCell ⟨g2 + 1, 0, none⟩ (.int .i64 31)) g2 (spC g1 R) := hC4.aw1 hAV (by omega) (by omega)
    have hzz : (W4.setCell ⟨g2 + 1, 0, none⟩ (.int .i64 31)).heap.size = g2 + 2 := by rw [← hz4]; simp
    have hDb : cfgB (⟨31, 4000, 120, 120, 1, 3, some ⟨g1, 0, none⟩, 1, [R]⟩ : VCfg) = false := cfg_no _ (by show (protoB 31 && (betw 1 4000 4000 && (betw 1 120 120 && (betw 1 120 120 && (betw 0 1 1 && betw 0 3 3))))) = false; decide +kernel)
    have hDV : CfgAt (W4.setCell ⟨g2 + 1, 0, none⟩ (.int .i64 31)) (W4.setCell ⟨g2 + 1, 0, none⟩ (.int .i64 31)).heap.size (⟨31, 4000, 120, 120, 1, 3, some ⟨g1, 0, none⟩, 1, [R]⟩ : VCfg) := (hcfV.like (y := (⟨31, 4000, 120, 120, 1, 3, some ⟨g1, 0, none⟩, 1, [R]⟩ : VCfg)) rfl rfl).more (Nat.le_trans (Nat.le_add_right g2 2) (Nat.le_of_eq hzz.symm))
    clear e0 e1 e2 e3 e4 e5 e6 f0 f1 f2 f3 f4 f5 f6 hd4 hc4 hC4 hz4 hAV hzz
    generalize (W4.setCell ⟨g2 + 1, 0, none⟩ (.int .i64 31)) = V at *
    have kCD : ∀ W, CfgAt W W.heap.size (⟨31, 4000, 120, 120, 1, 3, some ⟨g1, 0, none⟩, 1, [R]⟩ : VCfg) → Calls Try.prog 20 #[.agg #[.int .i64 31, .int .i64 4000, .int .i64 120, .int .i64 120, .int .i64 1, .int .i64 3, .slice (some ⟨g1, 0, none⟩) 1 1]] W fun e w' => e = .returned (.int .i64 19) ∧ Below W.heap.size W w' := fun W hW => spCheckD (⟨31, 4000, 120, 120, 1, 3, some ⟨g1, 0, none⟩, 1, [R]⟩ : VCfg) hDb W hW
    have kAD : ∀ W, KS w W (V.heap.size + 1) V.heap.size [] → CfgAt W W.heap.size (⟨31, 4000, 120, 120, 1, 3, some ⟨g1, 0, none⟩, 1, [R]⟩ : VCfg) → Calls Try.prog 11 #[.pointer (some ⟨V.heap.size + 1, 0, none⟩), .string ⟨#[116]⟩, .agg #[.int .i64 31, .int .i64 4000, .int .i64 120, .int .i64 120, .int .i64 1, .int .i64 3, .slice (some ⟨g1, 0, none⟩) 1 1]] W fun e w' => e = .returned (.int .i64 19) ∧ KS w w' (V.heap.size + 1) V.heap.size [] ∧ Aw [V.heap.size] W w' := fun W hK hW => spAddD (⟨31, 4000, 120, 120, 1, 3, some ⟨g1, 0, none⟩, 1, [R]⟩ : VCfg) hDb hK hW
    have hlc := Blk.lt hcV
    have hld := Blk.lt hdV
    have hzV := hbV.size
    go_wp2_with (first
      | (go_at_call 8; (with_reducible refine (bnew_any _).mono ?_); rintro e w5 ⟨rfl, hbk, hb5⟩; have hc5 := Blk.below hcV hb5 hlc; have hd5 := Blk.below hdV hb5 hld; have hC5 := hcfV.below (hb5.mono (by omega)); have hD5 := hDV.bel hb5; have hl5 := hb5.size; have q0 := (Blk.cell hc5 0).trans rfl; have q1 := (Blk.cell hc5 1).trans rfl; have q2 := (Blk.cell hc5 2).trans rfl; have q3 := (Blk.cell hc5 3).trans rfl; have q4 := (Blk.cell hc5 4).trans rfl; have q5 := (Blk.cell hc5 5).trans rfl; have q6 := (Blk.cell hc5 6).trans rfl)
      | (go_at_call 20; (with_reducible refine (spCheckC g1 R w5 hR (hC5.more (by omega))).mono ?_); rintro e w6 ⟨rfl, hb6⟩; have hc6 := Blk.below hc5 hb6 (by omega); have hd6 := Blk.below hd5 hb6 (by omega); have hC6 := hC5.below (hb6.mono (by omega)); have hD6 := hD5.bel hb6; have hl6 := hb6.size; have r0 := (Blk.cell hd6 0).trans rfl; have r1 := (Blk.cell hd6 1).trans rfl; have r2 := (Blk.cell hd6 2).trans rfl; have r3 := (Blk.cell hd6 3).trans rfl; have r4 := (Blk.cell hd6 4).trans rfl; have r5 := (Blk.cell hd6 5).trans rfl; have r6 := (Blk.cell hd6 6).trans rfl)
      | (go_at_call 20; (with_reducible refine (kCD w6 hD6).mono ?_); rintro e w7 ⟨rfl, hb7⟩; have hc7 := Blk.below hc6 hb7 (by omega); have hd7 := Blk.below hd6 hb7 (by omega); have hC7 := hC6.below (hb7.mono (by omega)); have hD7 := hD6.bel hb7; have hl7 := hb7.size; have hK7 : KS w w7 (V.heap.size + 1) V.heap.size [] := ⟨(hbk.bel hb6).bel hb7, bl_any (bl_any (bl_any hbV hb5) hb6) hb7, hzV⟩; have s0 := (Blk.cell hd7 0).trans rfl; have s1 := (Blk.cell hd7 1).trans rfl; have s2 := (Blk.cell hd7 2).trans rfl; have s3 := (Blk.cell hd7 3).trans rfl; have s4 := (Blk.cell hd7 4).trans rfl; have s5 := (Blk.cell hd7 5).trans rfl; have s6 := (Blk.cell hd7 6).trans rfl)
      | (go_at_call 11; (with_reducible refine (kAD w7 hK7 hD7).mono ?_); rintro e w8 ⟨rfl, hK8, hA8⟩; have hc8 := Blk.aw hc7 hA8 (by simp; omega); have hC8 := hC7.aw1 hA8 (by omega) (by omega); have t0 := (Blk.cell hc8 0).trans rfl; have t1 := (Blk.cell hc8 1).trans rfl; have t2 := (Blk.cell hc8 2).trans rfl; have t3 := (Blk.cell hc8 3).trans rfl; have t4 := (Blk.cell hc8 4).trans rfl; have t5 := (Blk.cell hc8 5).trans rfl; have t6 := (Blk.cell hc8 6).trans rfl)
      | (go_at_call 11; (with_reducible refine (spAddC g1 R hR hK8 (hC8.more (by have := hA8.size; omega))).mono ?_); rintro e w9 ⟨rfl, hb9, hz9⟩)
      | (go_at_call 20; (with_reducible refine (spMini w9).mono ?_); rintro e w10 ⟨rfl, hb10⟩))
    go_ret
    exact ⟨rfl, bl_any hb9 hb10⟩
  · have hq' : h.tmod 14 = 1 := hq
    clear hq hr14
    go_upto_region 37 with (fail)
    have hdV : Blk (W4.setCell ⟨g2 + 1, 0, none⟩ (.int .i64 32)) (g2 + 1) 30 #[.int .i64 32, .int .i64 4000, .int .i64 120, .int .i64 120, .int .i64 1, .int .i64 3, .slice (some ⟨g1, 0, none⟩) 1 1] := Blk.set_ hd4 0 _
    have hcV := Blk.far hc4 (p := ⟨g2 + 1, 0, none⟩) (by simp) (.int .i64 32)
    have hbV : Below w.heap.size w (W4.setCell ⟨g2 + 1, 0, none⟩ (.int .i64 32)) := bl_set hb4 (by show w.heap.size ≤ g2 + 1; omega) _
    have hAV := (Aw.refl [g2 + 1] W4).setCell (p := ⟨g2 + 1, 0, none⟩) (.inl (by simp)) (.int .i64 32)
    have hcfV : CfgAt (W4.setCell ⟨g2 + 1, 0, none⟩ (.int .i64 32)) g2 (spC g1 R) := hC4.aw1 hAV (by omega) (by omega)
    have hzz : (W4.setCell ⟨g2 + 1, 0, none⟩ (.int .i64 32)).heap.size = g2 + 2 := by rw [← hz4]; simp
    have hDb : cfgB (⟨32, 4000, 120, 120, 1, 3, some ⟨g1, 0, none⟩, 1, [R]⟩ : VCfg) = false := cfg_no _ (by show (protoB 32 && (betw 1 4000 4000 && (betw 1 120 120 && (betw 1 120 120 && (betw 0 1 1 && betw 0 3 3))))) = false; decide +kernel)
    have hDV : CfgAt (W4.setCell ⟨g2 + 1, 0, none⟩ (.int .i64 32)) (W4.setCell ⟨g2 + 1, 0, none⟩ (.int .i64 32)).heap.size (⟨32, 4000, 120, 120, 1, 3, some ⟨g1, 0, none⟩, 1, [R]⟩ : VCfg) := (hcfV.like (y := (⟨32, 4000, 120, 120, 1, 3, some ⟨g1, 0, none⟩, 1, [R]⟩ : VCfg)) rfl rfl).more (Nat.le_trans (Nat.le_add_right g2 2) (Nat.le_of_eq hzz.symm))
    clear e0 e1 e2 e3 e4 e5 e6 f0 f1 f2 f3 f4 f5 f6 hd4 hc4 hC4 hz4 hAV hzz
    generalize (W4.setCell ⟨g2 + 1, 0, none⟩ (.int .i64 32)) = V at *
    have kCD : ∀ W, CfgAt W W.heap.size (⟨32, 4000, 120, 120, 1, 3, some ⟨g1, 0, none⟩, 1, [R]⟩ : VCfg) → Calls Try.prog 20 #[.agg #[.int .i64 32, .int .i64 4000, .int .i64 120, .int .i64 120, .int .i64 1, .int .i64 3, .slice (some ⟨g1, 0, none⟩) 1 1]] W fun e w' => e = .returned (.int .i64 19) ∧ Below W.heap.size W w' := fun W hW => spCheckD (⟨32, 4000, 120, 120, 1, 3, some ⟨g1, 0, none⟩, 1, [R]⟩ : VCfg) hDb W hW
    have kAD : ∀ W, KS w W (V.heap.size + 1) V.heap.size [] → CfgAt W W.heap.size (⟨32, 4000, 120, 120, 1, 3, some ⟨g1, 0, none⟩, 1, [R]⟩ : VCfg) → Calls Try.prog 11 #[.pointer (some ⟨V.heap.size + 1, 0, none⟩), .string ⟨#[116]⟩, .agg #[.int .i64 32, .int .i64 4000, .int .i64 120, .int .i64 120, .int .i64 1, .int .i64 3, .slice (some ⟨g1, 0, none⟩) 1 1]] W fun e w' => e = .returned (.int .i64 19) ∧ KS w w' (V.heap.size + 1) V.heap.size [] ∧ Aw [V.heap.size] W w' := fun W hK hW => spAddD (⟨32, 4000, 120, 120, 1, 3, some ⟨g1, 0, none⟩, 1, [R]⟩ : VCfg) hDb hK hW
    have hlc := Blk.lt hcV
    have hld := Blk.lt hdV
    have hzV := hbV.size
    go_wp2_with (first
      | (go_at_call 8; (with_reducible refine (bnew_any _).mono ?_); rintro e w5 ⟨rfl, hbk, hb5⟩; have hc5 := Blk.below hcV hb5 hlc; have hd5 := Blk.below hdV hb5 hld; have hC5 := hcfV.below (hb5.mono (by omega)); have hD5 := hDV.bel hb5; have hl5 := hb5.size; have q0 := (Blk.cell hc5 0).trans rfl; have q1 := (Blk.cell hc5 1).trans rfl; have q2 := (Blk.cell hc5 2).trans rfl; have q3 := (Blk.cell hc5 3).trans rfl; have q4 := (Blk.cell hc5 4).trans rfl; have q5 := (Blk.cell hc5 5).trans rfl; have q6 := (Blk.cell hc5 6).trans rfl)
      | (go_at_call 20; (with_reducible refine (spCheckC g1 R w5 hR (hC5.more (by omega))).mono ?_); rintro e w6 ⟨rfl, hb6⟩; have hc6 := Blk.below hc5 hb6 (by omega); have hd6 := Blk.below hd5 hb6 (by omega); have hC6 := hC5.below (hb6.mono (by omega)); have hD6 := hD5.bel hb6; have hl6 := hb6.size; have r0 := (Blk.cell hd6 0).trans rfl; have r1 := (Blk.cell hd6 1).trans rfl; have r2 := (Blk.cell hd6 2).trans rfl; have r3 := (Blk.cell hd6 3).trans rfl; have r4 := (Blk.cell hd6 4).trans rfl; have r5 := (Blk.cell hd6 5).trans rfl; have r6 := (Blk.cell hd6 6).trans rfl)
      | (go_at_call 20; (with_reducible refine (kCD w6 hD6).mono ?_); rintro e w7 ⟨rfl, hb7⟩; have hc7 := Blk.below hc6 hb7 (by omega); have hd7 := Blk.below hd6 hb7 (by omega); have hC7 := hC6.below (hb7.mono (by omega)); have hD7 := hD6.bel hb7; have hl7 := hb7.size; have hK7 : KS w w7 (V.heap.size + 1) V.heap.size [] := ⟨(hbk.bel hb6).bel hb7, bl_any (bl_any (bl_any hbV hb5) hb6) hb7, hzV⟩; have s0 := (Blk.cell hd7 0).trans rfl; have s1 := (Blk.cell hd7 1).trans rfl; have s2 := (Blk.cell hd7 2).trans rfl; have s3 := (Blk.cell hd7 3).trans rfl; have s4 := (Blk.cell hd7 4).trans rfl; have s5 := (Blk.cell hd7 5).trans rfl; have s6 := (Blk.cell hd7 6).trans rfl)
      | (go_at_call 11; (with_reducible refine (kAD w7 hK7 hD7).mono ?_); rintro e w8 ⟨rfl, hK8, hA8⟩; have hc8 := Blk.aw hc7 hA8 (by simp; omega); have hC8 := hC7.aw1 hA8 (by omega) (by omega); have t0 := (Blk.cell hc8 0).trans rfl; have t1 := (Blk.cell hc8 1).trans rfl; have t2 := (Blk.cell hc8 2).trans rfl; have t3 := (Blk.cell hc8 3).trans rfl; have t4 := (Blk.cell hc8 4).trans rfl; have t5 := (Blk.cell hc8 5).trans rfl; have t6 := (Blk.cell hc8 6).trans rfl)
      | (go_at_call 11; (with_reducible refine (spAddC g1 R hR hK8 (hC8.more (by have := hA8.size; omega))).mono ?_); rintro e w9 ⟨rfl, hb9, hz9⟩)
      | (go_at_call 20; (with_reducible refine (spMini w9).mono ?_); rintro e w10 ⟨rfl, hb10⟩))
    go_ret
    exact ⟨rfl, bl_any hb9 hb10⟩
  · have hq' : h.tmod 14 = 2 := hq
    clear hq hr14
    go_upto_region 37 with (fail)
    have hdV : Blk (W4.setCell ⟨g2 + 1, 0, none⟩ (.int .i64 (-2))) (g2 + 1) 30 #[.int .i64 (-2), .int .i64 4000, .int .i64 120, .int .i64 120, .int .i64 1, .int .i64 3, .slice (some ⟨g1, 0, none⟩) 1 1] := Blk.set_ hd4 0 _
    have hcV := Blk.far hc4 (p := ⟨g2 + 1, 0, none⟩) (by simp) (.int .i64 (-2))
    have hbV : Below w.heap.size w (W4.setCell ⟨g2 + 1, 0, none⟩ (.int .i64 (-2))) := bl_set hb4 (by show w.heap.size ≤ g2 + 1; omega) _
    have hAV := (Aw.refl [g2 + 1] W4).setCell (p := ⟨g2 + 1, 0, none⟩) (.inl (by simp)) (.int .i64 (-2))
    have hcfV : CfgAt (W4.setCell ⟨g2 + 1, 0, none⟩ (.int .i64 (-2))) g2 (spC g1 R) := hC4.aw1 hAV (by omega) (by omega)
    have hzz : (W4.setCell ⟨g2 + 1, 0, none⟩ (.int .i64 (-2))).heap.size = g2 + 2 := by rw [← hz4]; simp
    have hDb : cfgB (⟨(-2), 4000, 120, 120, 1, 3, some ⟨g1, 0, none⟩, 1, [R]⟩ : VCfg) = false := cfg_no _ (by show (protoB (-2) && (betw 1 4000 4000 && (betw 1 120 120 && (betw 1 120 120 && (betw 0 1 1 && betw 0 3 3))))) = false; decide +kernel)
    have hDV : CfgAt (W4.setCell ⟨g2 + 1, 0, none⟩ (.int .i64 (-2))) (W4.setCell ⟨g2 + 1, 0, none⟩ (.int .i64 (-2))).heap.size (⟨(-2), 4000, 120, 120, 1, 3, some ⟨g1, 0, none⟩, 1, [R]⟩ : VCfg) := (hcfV.like (y := (⟨(-2), 4000, 120, 120, 1, 3, some ⟨g1, 0, none⟩, 1, [R]⟩ : VCfg)) rfl rfl).more (Nat.le_trans (Nat.le_add_right g2 2) (Nat.le_of_eq hzz.symm))
    clear e0 e1 e2 e3 e4 e5 e6 f0 f1 f2 f3 f4 f5 f6 hd4 hc4 hC4 hz4 hAV hzz
    generalize (W4.setCell ⟨g2 + 1, 0, none⟩ (.int .i64 (-2))) = V at *
    have kCD : ∀ W, CfgAt W W.heap.size (⟨(-2), 4000, 120, 120, 1, 3, some ⟨g1, 0, none⟩, 1, [R]⟩ : VCfg) → Calls Try.prog 20 #[.agg #[.int .i64 (-2), .int .i64 4000, .int .i64 120, .int .i64 120, .int .i64 1, .int .i64 3, .slice (some ⟨g1, 0, none⟩) 1 1]] W fun e w' => e = .returned (.int .i64 19) ∧ Below W.heap.size W w' := fun W hW => spCheckD (⟨(-2), 4000, 120, 120, 1, 3, some ⟨g1, 0, none⟩, 1, [R]⟩ : VCfg) hDb W hW
    have kAD : ∀ W, KS w W (V.heap.size + 1) V.heap.size [] → CfgAt W W.heap.size (⟨(-2), 4000, 120, 120, 1, 3, some ⟨g1, 0, none⟩, 1, [R]⟩ : VCfg) → Calls Try.prog 11 #[.pointer (some ⟨V.heap.size + 1, 0, none⟩), .string ⟨#[116]⟩, .agg #[.int .i64 (-2), .int .i64 4000, .int .i64 120, .int .i64 120, .int .i64 1, .int .i64 3, .slice (some ⟨g1, 0, none⟩) 1 1]] W fun e w' => e = .returned (.int .i64 19) ∧ KS w w' (V.heap.size + 1) V.heap.size [] ∧ Aw [V.heap.size] W w' := fun W hK hW => spAddD (⟨(-2), 4000, 120, 120, 1, 3, some ⟨g1, 0, none⟩, 1, [R]⟩ : VCfg) hDb hK hW
    have hlc := Blk.lt hcV
    have hld := Blk.lt hdV
    have hzV := hbV.size
    go_wp2_with (first
      | (go_at_call 8; (with_reducible refine (bnew_any _).mono ?_); rintro e w5 ⟨rfl, hbk, hb5⟩; have hc5 := Blk.below hcV hb5 hlc; have hd5 := Blk.below hdV hb5 hld; have hC5 := hcfV.below (hb5.mono (by omega)); have hD5 := hDV.bel hb5; have hl5 := hb5.size; have q0 := (Blk.cell hc5 0).trans rfl; have q1 := (Blk.cell hc5 1).trans rfl; have q2 := (Blk.cell hc5 2).trans rfl; have q3 := (Blk.cell hc5 3).trans rfl; have q4 := (Blk.cell hc5 4).trans rfl; have q5 := (Blk.cell hc5 5).trans rfl; have q6 := (Blk.cell hc5 6).trans rfl)
      | (go_at_call 20; (with_reducible refine (spCheckC g1 R w5 hR (hC5.more (by omega))).mono ?_); rintro e w6 ⟨rfl, hb6⟩; have hc6 := Blk.below hc5 hb6 (by omega); have hd6 := Blk.below hd5 hb6 (by omega); have hC6 := hC5.below (hb6.mono (by omega)); have hD6 := hD5.bel hb6; have hl6 := hb6.size; have r0 := (Blk.cell hd6 0).trans rfl; have r1 := (Blk.cell hd6 1).trans rfl; have r2 := (Blk.cell hd6 2).trans rfl; have r3 := (Blk.cell hd6 3).trans rfl; have r4 := (Blk.cell hd6 4).trans rfl; have r5 := (Blk.cell hd6 5).trans rfl; have r6 := (Blk.cell hd6 6).trans rfl)
      | (go_at_call 20; (with_reducible refine (kCD w6 hD6).mono ?_); rintro e w7 ⟨rfl, hb7⟩; have hc7 := Blk.below hc6 hb7 (by omega); have hd7 := Blk.below hd6 hb7 (by omega); have hC7 := hC6.below (hb7.mono (by omega)); have hD7 := hD6.bel hb7; have hl7 := hb7.size; have hK7 : KS w w7 (V.heap.size + 1) V.heap.size [] := ⟨(hbk.bel hb6).bel hb7, bl_any (bl_any (bl_any hbV hb5) hb6) hb7, hzV⟩; have s0 := (Blk.cell hd7 0).trans rfl; have s1 := (Blk.cell hd7 1).trans rfl; have s2 := (Blk.cell hd7 2).trans rfl; have s3 := (Blk.cell hd7 3).trans rfl; have s4 := (Blk.cell hd7 4).trans rfl; have s5 := (Blk.cell hd7 5).trans rfl; have s6 := (Blk.cell hd7 6).trans rfl)
      | (go_at_call 11; (with_reducible refine (kAD w7 hK7 hD7).mono ?_); rintro e w8 ⟨rfl, hK8, hA8⟩; have hc8 := Blk.aw hc7 hA8 (by simp; omega); have hC8 := hC7.aw1 hA8 (by omega) (by omega); have t0 := (Blk.cell hc8 0).trans rfl; have t1 := (Blk.cell hc8 1).trans rfl; have t2 := (Blk.cell hc8 2).trans rfl; have t3 := (Blk.cell hc8 3).trans rfl; have t4 := (Blk.cell hc8 4).trans rfl; have t5 := (Blk.cell hc8 5).trans rfl; have t6 := (Blk.cell hc8 6).trans rfl)
      | (go_at_call 11; (with_reducible refine (spAddC g1 R hR hK8 (hC8.more (by have := hA8.size; omega))).mono ?_); rintro e w9 ⟨rfl, hb9, hz9⟩)
      | (go_at_call 20; (with_reducible refine (spMini w9).mono ?_); rintro e w10 ⟨rfl, hb10⟩))
    go_ret
    exact ⟨rfl, bl_any hb9 hb10⟩
  · have hq' : h.tmod 14 = 3 := hq
    clear hq hr14
    go_upto_region 37 with (fail)
    have hdV : Blk (W4.setCell ⟨g2 + 1, 1, none⟩ (.int .i64 0)) (g2 + 1) 30 #[.int .i64 30, .int .i64 0, .int .i64 120, .int .i64 120, .int .i64 1, .int .i64 3, .slice (some ⟨g1, 0, none⟩) 1 1] := Blk.set_ hd4 1 _
    have hcV := Blk.far hc4 (p := ⟨g2 + 1, 1, none⟩) (by simp) (.int .i64 0)
    have hbV : Below w.heap.size w (W4.setCell ⟨g2 + 1, 1, none⟩ (.int .i64 0)) := bl_set hb4 (by show w.heap.size ≤ g2 + 1; omega) _
    have hAV := (Aw.refl [g2 + 1] W4).setCell (p := ⟨g2 + 1, 1, none⟩) (.inl (by simp)) (.int .i64 0)
    have hcfV : CfgAt (W4.setCell ⟨g2 + 1, 1, none⟩ (.int .i64 0)) g2 (spC g1 R) := hC4.aw1 hAV (by omega) (by omega)
    have hzz : (W4.setCell ⟨g2 + 1, 1, none⟩ (.int .i64 0)).heap.size = g2 + 2 := by rw [← hz4]; simp
    have hDb : cfgB (⟨30, 0, 120, 120, 1, 3, some ⟨g1, 0, none⟩, 1, [R]⟩ : VCfg) = false := cfg_no _ (by show (protoB 30 && (betw 1 4000 0 && (betw 1 120 120 && (betw 1 120 120 && (betw 0 1 1 && betw 0 3 3))))) = false; decide +kernel)
    have hDV : CfgAt (W4.setCell ⟨g2 + 1, 1, none⟩ (.int .i64 0)) (W4.setCell ⟨g2 + 1, 1, none⟩ (.int .i64 0)).heap.size (⟨30, 0, 120, 120, 1, 3, some ⟨g1, 0, none⟩, 1, [R]⟩ : VCfg) := (hcfV.like (y := (⟨30, 0, 120, 120, 1, 3, some ⟨g1, 0, none⟩, 1, [R]⟩ : VCfg)) rfl rfl).more (Nat.le_trans (Nat.le_add_right g2 2) (Nat.le_of_eq hzz.symm))
    clear e0 e1 e2 e3 e4 e5 e6 f0 f1 f2 f3 f4 f5 f6 hd4 hc4 hC4 hz4 hAV hzz
    generalize (W4.setCell ⟨g2 + 1, 1, none⟩ (.int .i64 0)) = V at *
    have kCD : ∀ W, CfgAt W W.heap.size (⟨30, 0, 120, 120, 1, 3, some ⟨g1, 0, none⟩, 1, [R]⟩ : VCfg) → Calls Try.prog 20 #[.agg #[.int .i64 30, .int .i64 0, .int .i64 120, .int .i64 120, .int .i64 1, .int .i64 3, .slice (some ⟨g1, 0, none⟩) 1 1]] W fun e w' => e = .returned (.int .i64 19) ∧ Below W.heap.size W w' := fun W hW => spCheckD (⟨30, 0, 120, 120, 1, 3, some ⟨g1, 0, none⟩, 1, [R]⟩ : VCfg) hDb W hW
    have kAD : ∀ W, KS w W (V.heap.size + 1) V.heap.size [] → CfgAt W W.heap.size (⟨30, 0, 120, 120, 1, 3, some ⟨g1, 0, none⟩, 1, [R]⟩ : VCfg) → Calls Try.prog 11 #[.pointer (some ⟨V.heap.size + 1, 0, none⟩), .string ⟨#[116]⟩, .agg #[.int .i64 30, .int .i64 0, .int .i64 120, .int .i64 120, .int .i64 1, .int .i64 3, .slice (some ⟨g1, 0, none⟩) 1 1]] W fun e w' => e = .returned (.int .i64 19) ∧ KS w w' (V.heap.size + 1) V.heap.size [] ∧ Aw [V.heap.size] W w' := fun W hK hW => spAddD (⟨30, 0, 120, 120, 1, 3, some ⟨g1, 0, none⟩, 1, [R]⟩ : VCfg) hDb hK hW
    have hlc := Blk.lt hcV
    have hld := Blk.lt hdV
    have hzV := hbV.size
    go_wp2_with (first
      | (go_at_call 8; (with_reducible refine (bnew_any _).mono ?_); rintro e w5 ⟨rfl, hbk, hb5⟩; have hc5 := Blk.below hcV hb5 hlc; have hd5 := Blk.below hdV hb5 hld; have hC5 := hcfV.below (hb5.mono (by omega)); have hD5 := hDV.bel hb5; have hl5 := hb5.size; have q0 := (Blk.cell hc5 0).trans rfl; have q1 := (Blk.cell hc5 1).trans rfl; have q2 := (Blk.cell hc5 2).trans rfl; have q3 := (Blk.cell hc5 3).trans rfl; have q4 := (Blk.cell hc5 4).trans rfl; have q5 := (Blk.cell hc5 5).trans rfl; have q6 := (Blk.cell hc5 6).trans rfl)
      | (go_at_call 20; (with_reducible refine (spCheckC g1 R w5 hR (hC5.more (by omega))).mono ?_); rintro e w6 ⟨rfl, hb6⟩; have hc6 := Blk.below hc5 hb6 (by omega); have hd6 := Blk.below hd5 hb6 (by omega); have hC6 := hC5.below (hb6.mono (by omega)); have hD6 := hD5.bel hb6; have hl6 := hb6.size; have r0 := (Blk.cell hd6 0).trans rfl; have r1 := (Blk.cell hd6 1).trans rfl; have r2 := (Blk.cell hd6 2).trans rfl; have r3 := (Blk.cell hd6 3).trans rfl; have r4 := (Blk.cell hd6 4).trans rfl; have r5 := (Blk.cell hd6 5).trans rfl; have r6 := (Blk.cell hd6 6).trans rfl)
      | (go_at_call 20; (with_reducible refine (kCD w6 hD6).mono ?_); rintro e w7 ⟨rfl, hb7⟩; have hc7 := Blk.below hc6 hb7 (by omega); have hd7 := Blk.below hd6 hb7 (by omega); have hC7 := hC6.below (hb7.mono (by omega)); have hD7 := hD6.bel hb7; have hl7 := hb7.size; have hK7 : KS w w7 (V.heap.size + 1) V.heap.size [] := ⟨(hbk.bel hb6).bel hb7, bl_any (bl_any (bl_any hbV hb5) hb6) hb7, hzV⟩; have s0 := (Blk.cell hd7 0).trans rfl; have s1 := (Blk.cell hd7 1).trans rfl; have s2 := (Blk.cell hd7 2).trans rfl; have s3 := (Blk.cell hd7 3).trans rfl; have s4 := (Blk.cell hd7 4).trans rfl; have s5 := (Blk.cell hd7 5).trans rfl; have s6 := (Blk.cell hd7 6).trans rfl)
      | (go_at_call 11; (with_reducible refine (kAD w7 hK7 hD7).mono ?_); rintro e w8 ⟨rfl, hK8, hA8⟩; have hc8 := Blk.aw hc7 hA8 (by simp; omega); have hC8 := hC7.aw1 hA8 (by omega) (by omega); have t0 := (Blk.cell hc8 0).trans rfl; have t1 := (Blk.cell hc8 1).trans rfl; have t2 := (Blk.cell hc8 2).trans rfl; have t3 := (Blk.cell hc8 3).trans rfl; have t4 := (Blk.cell hc8 4).trans rfl; have t5 := (Blk.cell hc8 5).trans rfl; have t6 := (Blk.cell hc8 6).trans rfl)
      | (go_at_call 11; (with_reducible refine (spAddC g1 R hR hK8 (hC8.more (by have := hA8.size; omega))).mono ?_); rintro e w9 ⟨rfl, hb9, hz9⟩)
      | (go_at_call 20; (with_reducible refine (spMini w9).mono ?_); rintro e w10 ⟨rfl, hb10⟩))
    go_ret
    exact ⟨rfl, bl_any hb9 hb10⟩
  · have hq' : h.tmod 14 = 4 := hq
    clear hq hr14
    go_upto_region 37 with (fail)
    have hdV : Blk (W4.setCell ⟨g2 + 1, 1, none⟩ (.int .i64 4001)) (g2 + 1) 30 #[.int .i64 30, .int .i64 4001, .int .i64 120, .int .i64 120, .int .i64 1, .int .i64 3, .slice (some ⟨g1, 0, none⟩) 1 1] := Blk.set_ hd4 1 _
    have hcV := Blk.far hc4 (p := ⟨g2 + 1, 1, none⟩) (by simp) (.int .i64 4001)
    have hbV : Below w.heap.size w (W4.setCell ⟨g2 + 1, 1, none⟩ (.int .i64 4001)) := bl_set hb4 (by show w.heap.size ≤ g2 + 1; omega) _
    have hAV := (Aw.refl [g2 + 1] W4).setCell (p := ⟨g2 + 1, 1, none⟩) (.inl (by simp)) (.int .i64 4001)
    have hcfV : CfgAt (W4.setCell ⟨g2 + 1, 1, none⟩ (.int .i64 4001)) g2 (spC g1 R) := hC4.aw1 hAV (by omega) (by omega)
    have hzz : (W4.setCell ⟨g2 + 1, 1, none⟩ (.int .i64 4001)).heap.size = g2 + 2 := by rw [← hz4]; simp
    have hDb : cfgB (⟨30, 4001, 120, 120, 1, 3, some ⟨g1, 0, none⟩, 1, [R]⟩ : VCfg) = false := cfg_no _ (by show (protoB 30 && (betw 1 4000 4001 && (betw 1 120 120 && (betw 1 120 120 && (betw 0 1 1 && betw 0 3 3))))) = false; decide +kernel)
    have hDV : CfgAt (W4.setCell ⟨g2 + 1, 1, none⟩ (.int .i64 4001)) (W4.setCell ⟨g2 + 1, 1, none⟩ (.int .i64 4001)).heap.size (⟨30, 4001, 120, 120, 1, 3, some ⟨g1, 0, none⟩, 1, [R]⟩ : VCfg) := (hcfV.like (y := (⟨30, 4001, 120, 120, 1, 3, some ⟨g1, 0, none⟩, 1, [R]⟩ : VCfg)) rfl rfl).more (Nat.le_trans (Nat.le_add_right g2 2) (Nat.le_of_eq hzz.symm))
    clear e0 e1 e2 e3 e4 e5 e6 f0 f1 f2 f3 f4 f5 f6 hd4 hc4 hC4 hz4 hAV hzz
    generalize (W4.setCell ⟨g2 + 1, 1, none⟩ (.int .i64 4001)) = V at *
    have kCD : ∀ W, CfgAt W W.heap.size (⟨30, 4001, 120, 120, 1, 3, some ⟨g1, 0, none⟩, 1, [R]⟩ : VCfg) → Calls Try.prog 20 #[.agg #[.int .i64 30, .int .i64 4001, .int .i64 120, .int .i64 120, .int .i64 1, .int .i64 3, .slice (some ⟨g1, 0, none⟩) 1 1]] W fun e w' => e = .returned (.int .i64 19) ∧ Below W.heap.size W w' := fun W hW => spCheckD (⟨30, 4001, 120, 120, 1, 3, some ⟨g1, 0, none⟩, 1, [R]⟩ : VCfg) hDb W hW
    have kAD : ∀ W, KS w W (V.heap.size + 1) V.heap.size [] → CfgAt W W.heap.size (⟨30, 4001, 120, 120, 1, 3, some ⟨g1, 0, none⟩, 1, [R]⟩ : VCfg) → Calls Try.prog 11 #[.pointer (some ⟨V.heap.size + 1, 0, none⟩), .string ⟨#[116]⟩, .agg #[.int .i64 30, .int .i64 4001, .int .i64 120, .int .i64 120, .int .i64 1, .int .i64 3, .slice (some ⟨g1, 0, none⟩) 1 1]] W fun e w' => e = .returned (.int .i64 19) ∧ KS w w' (V.heap.size + 1) V.heap.size [] ∧ Aw [V.heap.size] W w' := fun W hK hW => spAddD (⟨30, 4001, 120, 120, 1, 3, some ⟨g1, 0, none⟩, 1, [R]⟩ : VCfg) hDb hK hW
    have hlc := Blk.lt hcV
    have hld := Blk.lt hdV
    have hzV := hbV.size
    go_wp2_with (first
      | (go_at_call 8; (with_reducible refine (bnew_any _).mono ?_); rintro e w5 ⟨rfl, hbk, hb5⟩; have hc5 := Blk.below hcV hb5 hlc; have hd5 := Blk.below hdV hb5 hld; have hC5 := hcfV.below (hb5.mono (by omega)); have hD5 := hDV.bel hb5; have hl5 := hb5.size; have q0 := (Blk.cell hc5 0).trans rfl; have q1 := (Blk.cell hc5 1).trans rfl; have q2 := (Blk.cell hc5 2).trans rfl; have q3 := (Blk.cell hc5 3).trans rfl; have q4 := (Blk.cell hc5 4).trans rfl; have q5 := (Blk.cell hc5 5).trans rfl; have q6 := (Blk.cell hc5 6).trans rfl)
      | (go_at_call 20; (with_reducible refine (spCheckC g1 R w5 hR (hC5.more (by omega))).mono ?_); rintro e w6 ⟨rfl, hb6⟩; have hc6 := Blk.below hc5 hb6 (by omega); have hd6 := Blk.below hd5 hb6 (by omega); have hC6 := hC5.below (hb6.mono (by omega)); have hD6 := hD5.bel hb6; have hl6 := hb6.size; have r0 := (Blk.cell hd6 0).trans rfl; have r1 := (Blk.cell hd6 1).trans rfl; have r2 := (Blk.cell hd6 2).trans rfl; have r3 := (Blk.cell hd6 3).trans rfl; have r4 := (Blk.cell hd6 4).trans rfl; have r5 := (Blk.cell hd6 5).trans rfl; have r6 := (Blk.cell hd6 6).trans rfl)
      | (go_at_call 20; (with_reducible refine (kCD w6 hD6).mono ?_); rintro e w7 ⟨rfl, hb7⟩; have hc7 := Blk.below hc6 hb7 (by omega); have hd7 := Blk.below hd6 hb7 (by omega); have hC7 := hC6.below (hb7.mono (by omega)); have hD7 := hD6.bel hb7; have hl7 := hb7.size; have hK7 : KS w w7 (V.heap.size + 1) V.heap.size [] := ⟨(hbk.bel hb6).bel hb7, bl_any (bl_any (bl_any hbV hb5) hb6) hb7, hzV⟩; have s0 := (Blk.cell hd7 0).trans rfl; have s1 := (Blk.cell hd7 1).trans rfl; have s2 := (Blk.cell hd7 2).trans rfl; have s3 := (Blk.cell hd7 3).trans rfl; have s4 := (Blk.cell hd7 4).trans rfl; have s5 := (Blk.cell hd7 5).trans rfl; have s6 := (Blk.cell hd7 6).trans rfl)
      | (go_at_call 11; (with_reducible refine (kAD w7 hK7 hD7).mono ?_); rintro e w8 ⟨rfl, hK8, hA8⟩; have hc8 := Blk.aw hc7 hA8 (by simp; omega); have hC8 := hC7.aw1 hA8 (by omega) (by omega); have t0 := (Blk.cell hc8 0).trans rfl; have t1 := (Blk.cell hc8 1).trans rfl; have t2 := (Blk.cell hc8 2).trans rfl; have t3 := (Blk.cell hc8 3).trans rfl; have t4 := (Blk.cell hc8 4).trans rfl; have t5 := (Blk.cell hc8 5).trans rfl; have t6 := (Blk.cell hc8 6).trans rfl)
      | (go_at_call 11; (with_reducible refine (spAddC g1 R hR hK8 (hC8.more (by have := hA8.size; omega))).mono ?_); rintro e w9 ⟨rfl, hb9, hz9⟩)
      | (go_at_call 20; (with_reducible refine (spMini w9).mono ?_); rintro e w10 ⟨rfl, hb10⟩))
    go_ret
    exact ⟨rfl, bl_any hb9 hb10⟩
  · have hq' : h.tmod 14 = 5 := hq
    clear hq hr14
    go_upto_region 37 with (fail)
    have hdV : Blk (W4.setCell ⟨g2 + 1, 2, none⟩ (.int .i64 0)) (g2 + 1) 30 #[.int .i64 30, .int .i64 4000, .int .i64 0, .int .i64 120, .int .i64 1, .int .i64 3, .slice (some ⟨g1, 0, none⟩) 1 1] := Blk.set_ hd4 2 _
    have hcV := Blk.far hc4 (p := ⟨g2 + 1, 2, none⟩) (by simp) (.int .i64 0)
    have hbV : Below w.heap.size w (W4.setCell ⟨g2 + 1, 2, none⟩ (.int .i64 0)) := bl_set hb4 (by show w.heap.size ≤ g2 + 1; omega) _
    have hAV := (Aw.refl [g2 + 1] W4).setCell (p := ⟨g2 + 1, 2, none⟩) (.inl (by simp)) (.int .i64 0)
    have hcfV : CfgAt (W4.setCell ⟨g2 + 1, 2, none⟩ (.int .i64 0)) g2 (spC g1 R) := hC4.aw1 hAV (by omega) (by omega)
    have hzz : (W4.setCell ⟨g2 + 1, 2, none⟩ (.int .i64 0)).heap.size = g2 + 2 := by rw [← hz4]; simp
    have hDb : cfgB (⟨30, 4000, 0, 120, 1, 3, some ⟨g1, 0, none⟩, 1, [R]⟩ : VCfg) = false := cfg_no _ (by show (protoB 30 && (betw 1 4000 4000 && (betw 1 120 0 && (betw 1 120 120 && (betw 0 1 1 && betw 0 3 3))))) = false; decide +kernel)
    have hDV : CfgAt (W4.setCell ⟨g2 + 1, 2, none⟩ (.int .i64 0)) (W4.setCell ⟨g2 + 1, 2, none⟩ (.int .i64 0)).heap.size (⟨30, 4000, 0, 120, 1, 3, some ⟨g1, 0, none⟩, 1, [R]⟩ : VCfg) := (hcfV.like (y := (⟨30, 4000, 0, 120, 1, 3, some ⟨g1, 0, none⟩, 1, [R]⟩ : VCfg)) rfl rfl).more (Nat.le_trans (Nat.le_add_right g2 2) (Nat.le_of_eq hzz.symm))
    clear e0 e1 e2 e3 e4 e5 e6 f0 f1 f2 f3 f4 f5 f6 hd4 hc4 hC4 hz4 hAV hzz
    generalize (W4.setCell ⟨g2 + 1, 2, none⟩ (.int .i64 0)) = V at *
    have kCD : ∀ W, CfgAt W W.heap.size (⟨30, 4000, 0, 120, 1, 3, some ⟨g1, 0, none⟩, 1, [R]⟩ : VCfg) → Calls Try.prog 20 #[.agg #[.int .i64 30, .int .i64 4000, .int .i64 0, .int .i64 120, .int .i64 1, .int .i64 3, .slice (some ⟨g1, 0, none⟩) 1 1]] W fun e w' => e = .returned (.int .i64 19) ∧ Below W.heap.size W w' := fun W hW => spCheckD (⟨30, 4000, 0, 120, 1, 3, some ⟨g1, 0, none⟩, 1, [R]⟩ : VCfg) hDb W hW
    have kAD : ∀ W, KS w W (V.heap.size + 1) V.heap.size [] → CfgAt W W.heap.size (⟨30, 4000, 0, 120, 1, 3, some ⟨g1, 0, none⟩, 1, [R]⟩ : VCfg) → Calls Try.prog 11 #[.pointer (some ⟨V.heap.size + 1, 0, none⟩), .string ⟨#[116]⟩, .agg #[.int .i64 30, .int .i64 4000, .int .i64 0, .int .i64 120, .int .i64 1, .int .i64 3, .slice (some ⟨g1, 0, none⟩) 1 1]] W fun e w' => e = .returned (.int .i64 19) ∧ KS w w' (V.heap.size + 1) V.heap.size [] ∧ Aw [V.heap.size] W w' := fun W hK hW => spAddD (⟨30, 4000, 0, 120, 1, 3, some ⟨g1, 0, none⟩, 1, [R]⟩ : VCfg) hDb hK hW
    have hlc := Blk.lt hcV
    have hld := Blk.lt hdV
    have hzV := hbV.size
    go_wp2_with (first
      | (go_at_call 8; (with_reducible refine (bnew_any _).mono ?_); rintro e w5 ⟨rfl, hbk, hb5⟩; have hc5 := Blk.below hcV hb5 hlc; have hd5 := Blk.below hdV hb5 hld; have hC5 := hcfV.below (hb5.mono (by omega)); have hD5 := hDV.bel hb5; have hl5 := hb5.size; have q0 := (Blk.cell hc5 0).trans rfl; have q1 := (Blk.cell hc5 1).trans rfl; have q2 := (Blk.cell hc5 2).trans rfl; have q3 := (Blk.cell hc5 3).trans rfl; have q4 := (Blk.cell hc5 4).trans rfl; have q5 := (Blk.cell hc5 5).trans rfl; have q6 := (Blk.cell hc5 6).trans rfl)
      | (go_at_call 20; (with_reducible refine (spCheckC g1 R w5 hR (hC5.more (by omega))).mono ?_); rintro e w6 ⟨rfl, hb6⟩; have hc6 := Blk.below hc5 hb6 (by omega); have hd6 := Blk.below hd5 hb6 (by omega); have hC6 := hC5.below (hb6.mono (by omega)); have hD6 := hD5.bel hb6; have hl6 := hb6.size; have r0 := (Blk.cell hd6 0).trans rfl; have r1 := (Blk.cell hd6 1).trans rfl; have r2 := (Blk.cell hd6 2).trans rfl; have r3 := (Blk.cell hd6 3).trans rfl; have r4 := (Blk.cell hd6 4).trans rfl; have r5 := (Blk.cell hd6 5).trans rfl; have r6 := (Blk.cell hd6 6).trans rfl)
      | (go_at_call 20; (with_reducible refine (kCD w6 hD6).mono ?_); rintro e w7 ⟨rfl, hb7⟩; have hc7 := Blk.below hc6 hb7 (by omega); have hd7 := Blk.below hd6 hb7 (by omega); have hC7 := hC6.below (hb7.mono (by omega)); have hD7 := hD6.bel hb7; have hl7 := hb7.size; have hK7 : KS w w7 (V.heap.size + 1) V.heap.size [] := ⟨(hbk.bel hb6).bel hb7, bl_any (bl_any (bl_any hbV hb5) hb6) hb7, hzV⟩; have s0 := (Blk.cell hd7 0).trans rfl; have s1 := (Blk.cell hd7 1).trans rfl; have s2 := (Blk.cell hd7 2).trans rfl; have s3 := (Blk.cell hd7 3).trans rfl; have s4 := (Blk.cell hd7 4).trans rfl; have s5 := (Blk.cell hd7 5).trans rfl; have s6 := (Blk.cell hd7 6).trans rfl)
      | (go_at_call 11; (with_reducible refine (kAD w7 hK7 hD7).mono ?_); rintro e w8 ⟨rfl, hK8, hA8⟩; have hc8 := Blk.aw hc7 hA8 (by simp; omega); have hC8 := hC7.aw1 hA8 (by omega) (by omega); have t0 := (Blk.cell hc8 0).trans rfl; have t1 := (Blk.cell hc8 1).trans rfl; have t2 := (Blk.cell hc8 2).trans rfl; have t3 := (Blk.cell hc8 3).trans rfl; have t4 := (Blk.cell hc8 4).trans rfl; have t5 := (Blk.cell hc8 5).trans rfl; have t6 := (Blk.cell hc8 6).trans rfl)
      | (go_at_call 11; (with_reducible refine (spAddC g1 R hR hK8 (hC8.more (by have := hA8.size; omega))).mono ?_); rintro e w9 ⟨rfl, hb9, hz9⟩)
      | (go_at_call 20; (with_reducible refine (spMini w9).mono ?_); rintro e w10 ⟨rfl, hb10⟩))
    go_ret
    exact ⟨rfl, bl_any hb9 hb10⟩
  · have hq' : h.tmod 14 = 6 := hq
    clear hq hr14
    go_upto_region 37 with (fail)
    have hdV : Blk (W4.setCell ⟨g2 + 1, 2, none⟩ (.int .i64 121)) (g2 + 1) 30 #[.int .i64 30, .int .i64 4000, .int .i64 121, .int .i64 120, .int .i64 1, .int .i64 3, .slice (some ⟨g1, 0, none⟩) 1 1] := Blk.set_ hd4 2 _
    have hcV := Blk.far hc4 (p := ⟨g2 + 1, 2, none⟩) (by simp) (.int .i64 121)
    have hbV : Below w.heap.size w (W4.setCell ⟨g2 + 1, 2, none⟩ (.int .i64 121)) := bl_set hb4 (by show w.heap.size ≤ g2 + 1; omega) _
    have hAV := (Aw.refl [g2 + 1] W4).setCell (p := ⟨g2 + 1, 2, none⟩) (.inl (by simp)) (.int .i64 121)
    have hcfV : CfgAt (W4.setCell ⟨g2 + 1, 2, none⟩ (.int .i64 121)) g2 (spC g1 R) := hC4.aw1 hAV (by omega) (by omega)
    have hzz : (W4.setCell ⟨g2 + 1, 2, none⟩ (.int .i64 121)).heap.size = g2 + 2 := by rw [← hz4]; simp
    have hDb : cfgB (⟨30, 4000, 121, 120, 1, 3, some ⟨g1, 0, none⟩, 1, [R]⟩ : VCfg) = false := cfg_no _ (by show (protoB 30 && (betw 1 4000 4000 && (betw 1 120 121 && (betw 1 120 120 && (betw 0 1 1 && betw 0 3 3))))) = false; decide +kernel)
    have hDV : CfgAt (W4.setCell ⟨g2 + 1, 2, none⟩ (.int .i64 121)) (W4.setCell ⟨g2 + 1, 2, none⟩ (.int .i64 121)).heap.size (⟨30, 4000, 121, 120, 1, 3, some ⟨g1, 0, none⟩, 1, [R]⟩ : VCfg) := (hcfV.like (y := (⟨30, 4000, 121, 120, 1, 3, some ⟨g1, 0, none⟩, 1, [R]⟩ : VCfg)) rfl rfl).more (Nat.le_trans (Nat.le_add_right g2 2) (Nat.le_of_eq hzz.symm))
    clear e0 e1 e2 e3 e4 e5 e6 f0 f1 f2 f3 f4 f5 f6 hd4 hc4 hC4 hz4 hAV hzz
    generalize (W4.setCell ⟨g2 + 1, 2, none⟩ (.int .i64 121)) = V at *
    have kCD : ∀ W, CfgAt W W.heap.size (⟨30, 4000, 121, 120, 1, 3, some ⟨g1, 0, none⟩, 1, [R]⟩ : VCfg) → Calls Try.prog 20 #[.agg #[.int .i64 30, .int .i64 4000, .int .i64 121, .int .i64 120, .int .i64 1, .int .i64 3, .slice (some ⟨g1, 0, none⟩) 1 1]] W fun e w' => e = .returned (.int .i64 19) ∧ Below W.heap.size W w' := fun W hW => spCheckD (⟨30, 4000, 121, 120, 1, 3, some ⟨g1, 0, none⟩, 1, [R]⟩ : VCfg) hDb W hW
    have kAD : ∀ W, KS w W (V.heap.size + 1) V.heap.size [] → CfgAt W W.heap.size (⟨30, 4000, 121, 120, 1, 3, some ⟨g1, 0, none⟩, 1, [R]⟩ : VCfg) → Calls Try.prog 11 #[.pointer (some ⟨V.heap.size + 1, 0, none⟩), .string ⟨#[116]⟩, .agg #[.int .i64 30, .int .i64 4000, .int .i64 121, .int .i64 120, .int .i64 1, .int .i64 3, .slice (some ⟨g1, 0, none⟩) 1 1]] W fun e w' => e = .returned (.int .i64 19) ∧ KS w w' (V.heap.size + 1) V.heap.size [] ∧ Aw [V.heap.size] W w' := fun W hK hW => spAddD (⟨30, 4000, 121, 120, 1, 3, some ⟨g1, 0, none⟩, 1, [R]⟩ : VCfg) hDb hK hW
    have hlc := Blk.lt hcV
    have hld := Blk.lt hdV
    have hzV := hbV.size
    go_wp2_with (first
      | (go_at_call 8; (with_reducible refine (bnew_any _).mono ?_); rintro e w5 ⟨rfl, hbk, hb5⟩; have hc5 := Blk.below hcV hb5 hlc; have hd5 := Blk.below hdV hb5 hld; have hC5 := hcfV.below (hb5.mono (by omega)); have hD5 := hDV.bel hb5; have hl5 := hb5.size; have q0 := (Blk.cell hc5 0).trans rfl; have q1 := (Blk.cell hc5 1).trans rfl; have q2 := (Blk.cell hc5 2).trans rfl; have q3 := (Blk.cell hc5 3).trans rfl; have q4 := (Blk.cell hc5 4).trans rfl; have q5 := (Blk.cell hc5 5).trans rfl; have q6 := (Blk.cell hc5 6).trans rfl)
      | (go_at_call 20; (with_reducible refine (spCheckC g1 R w5 hR (hC5.more (by omega))).mono ?_); rintro e w6 ⟨rfl, hb6⟩; have hc6 := Blk.below hc5 hb6 (by omega); have hd6 := Blk.below hd5 hb6 (by omega); have hC6 := hC5.below (hb6.mono (by omega)); have hD6 := hD5.bel hb6; have hl6 := hb6.size; have r0 := (Blk.cell hd6 0).trans rfl; have r1 := (Blk.cell hd6 1).trans rfl; have r2 := (Blk.cell hd6 2).trans rfl; have r3 := (Blk.cell hd6 3).trans rfl; have r4 := (Blk.cell hd6 4).trans rfl; have r5 := (Blk.cell hd6 5).trans rfl; have r6 := (Blk.cell hd6 6).trans rfl)
      | (go_at_call 20; (with_reducible refine (kCD w6 hD6).mono ?_); rintro e w7 ⟨rfl, hb7⟩; have hc7 := Blk.below hc6 hb7 (by omega); have hd7 := Blk.below hd6 hb7 (by omega); have hC7 := hC6.below (hb7.mono (by omega)); have hD7 := hD6.bel hb7; have hl7 := hb7.size; have hK7 : KS w w7 (V.heap.size + 1) V.heap.size [] := ⟨(hbk.bel hb6).bel hb7, bl_any (bl_any (bl_any hbV hb5) hb6) hb7, hzV⟩; have s0 := (Blk.cell hd7 0).trans rfl; have s1 := (Blk.cell hd7 1).trans rfl; have s2 := (Blk.cell hd7 2).trans rfl; have s3 := (Blk.cell hd7 3).trans rfl; have s4 := (Blk.cell hd7 4).trans rfl; have s5 := (Blk.cell hd7 5).trans rfl; have s6 := (Blk.cell hd7 6).trans rfl)
      | (go_at_call 11; (with_reducible refine (kAD w7 hK7 hD7).mono ?_); rintro e w8 ⟨rfl, hK8, hA8⟩; have hc8 := Blk.aw hc7 hA8 (by simp; omega); have hC8 := hC7.aw1 hA8 (by omega) (by omega); have t0 := (Blk.cell hc8 0).trans rfl; have t1 := (Blk.cell hc8 1).trans rfl; have t2 := (Blk.cell hc8 2).trans rfl; have t3 := (Blk.cell hc8 3).trans rfl; have t4 := (Blk.cell hc8 4).trans rfl; have t5 := (Blk.cell hc8 5).trans rfl; have t6 := (Blk.cell hc8 6).trans rfl)
      | (go_at_call 11; (with_reducible refine (spAddC g1 R hR hK8 (hC8.more (by have := hA8.size; omega))).mono ?_); rintro e w9 ⟨rfl, hb9, hz9⟩)
      | (go_at_call 20; (with_reducible refine (spMini w9).mono ?_); rintro e w10 ⟨rfl, hb10⟩))
    go_ret
    exact ⟨rfl, bl_any hb9 hb10⟩
  · have hq' : h.tmod 14 = 7 := hq
    clear hq hr14
    go_upto_region 37 with (fail)
    have hdV : Blk (W4.setCell ⟨g2 + 1, 3, none⟩ (.int .i64 0)) (g2 + 1) 30 #[.int .i64 30, .int .i64 4000, .int .i64 120, .int .i64 0, .int .i64 1, .int .i64 3, .slice (some ⟨g1, 0, none⟩) 1 1] := Blk.set_ hd4 3 _
    have hcV := Blk.far hc4 (p := ⟨g2 + 1, 3, none⟩) (by simp) (.int .i64 0)
    have hbV : Below w.heap.size w (W4.setCell ⟨g2 + 1, 3, none⟩ (.int .i64 0)) := bl_set hb4 (by show w.heap.size ≤ g2 + 1; omega) _
    have hAV := (Aw.refl [g2 + 1] W4).setCell (p := ⟨g2 + 1, 3, none⟩) (.inl (by simp)) (.int .i64 0)
    have hcfV : CfgAt (W4.setCell ⟨g2 + 1, 3, none⟩ (.int .i64 0)) g2 (spC g1 R) := hC4.aw1 hAV (by omega) (by omega)
    have hzz : (W4.setCell ⟨g2 + 1, 3, none⟩ (.int .i64 0)).heap.size = g2 + 2 := by rw [← hz4]; simp
    have hDb : cfgB (⟨30, 4000, 120, 0, 1, 3, some ⟨g1, 0, none⟩, 1, [R]⟩ : VCfg) = false := cfg_no _ (by show (protoB 30 && (betw 1 4000 4000 && (betw 1 120 120 && (betw 1 120 0 && (betw 0 1 1 && betw 0 3 3))))) = false; decide +kernel)
    have hDV : CfgAt (W4.setCell ⟨g2 + 1, 3, none⟩ (.int .i64 0)) (W4.setCell ⟨g2 + 1, 3, none⟩ (.int .i64 0)).heap.size (⟨30, 4000, 120, 0, 1, 3, some ⟨g1, 0, none⟩, 1, [R]⟩ : VCfg) := (hcfV.like (y := (⟨30, 4000, 120, 0, 1, 3, some ⟨g1, 0, none⟩, 1, [R]⟩ : VCfg)) rfl rfl).more (Nat.le_trans (Nat.le_add_right g2 2) (Nat.le_of_eq hzz.symm))
    clear e0 e1 e2 e3 e4 e5 e6 f0 f1 f2 f3 f4 f5 f6 hd4 hc4 hC4 hz4 hAV hzz
    generalize (W4.setCell ⟨g2 + 1, 3, none⟩ (.int .i64 0)) = V at *
    have kCD : ∀ W, CfgAt W W.heap.size (⟨30, 4000, 120, 0, 1, 3, some ⟨g1, 0, none⟩, 1, [R]⟩ : VCfg) → Calls Try.prog 20 #[.agg #[.int .i64 30, .int .i64 4000, .int .i64 120, .int .i64 0, .int .i64 1, .int .i64 3, .slice (some ⟨g1, 0, none⟩) 1 1]] W fun e w' => e = .returned (.int .i64 19) ∧ Below W.heap.size W w' := fun W hW => spCheckD (⟨30, 4000, 120, 0, 1, 3, some ⟨g1, 0, none⟩, 1, [R]⟩ : VCfg) hDb W hW
    have kAD : ∀ W, KS w W (V.heap.size + 1) V.heap.size [] → CfgAt W W.heap.size (⟨30, 4000, 120, 0, 1, 3, some ⟨g1, 0, none⟩, 1, [R]⟩ : VCfg) → Calls Try.prog 11 #[.pointer (some ⟨V.heap.size + 1, 0, none⟩), .string ⟨#[116]⟩, .agg #[.int .i64 30, .int .i64 4000, .int .i64 120, .int .i64 0, .int .i64 1, .int .i64 3, .slice (some ⟨g1, 0, none⟩) 1 1]] W fun e w' => e = .returned (.int .i64 19) ∧ KS w w' (V.heap.size + 1) V.heap.size [] ∧ Aw [V.heap.size] W w' := fun W hK hW => spAddD (⟨30, 4000, 120, 0, 1, 3, some ⟨g1, 0, none⟩, 1, [R]⟩ : VCfg) hDb hK hW
    have hlc := Blk.lt hcV
    have hld := Blk.lt hdV
    have hzV := hbV.size
    go_wp2_with (first
      | (go_at_call 8; (with_reducible refine (bnew_any _).mono ?_); rintro e w5 ⟨rfl, hbk, hb5⟩; have hc5 := Blk.below hcV hb5 hlc; have hd5 := Blk.below hdV hb5 hld; have hC5 := hcfV.below (hb5.mono (by omega)); have hD5 := hDV.bel hb5; have hl5 := hb5.size; have q0 := (Blk.cell hc5 0).trans rfl; have q1 := (Blk.cell hc5 1).trans rfl; have q2 := (Blk.cell hc5 2).trans rfl; have q3 := (Blk.cell hc5 3).trans rfl; have q4 := (Blk.cell hc5 4).trans rfl; have q5 := (Blk.cell hc5 5).trans rfl; have q6 := (Blk.cell hc5 6).trans rfl)
      | (go_at_call 20; (with_reducible refine (spCheckC g1 R w5 hR (hC5.more (by omega))).mono ?_); rintro e w6 ⟨rfl, hb6⟩; have hc6 := Blk.below hc5 hb6 (by omega); have hd6 := Blk.below hd5 hb6 (by omega); have hC6 := hC5.below (hb6.mono (by omega)); have hD6 := hD5.bel hb6; have hl6 := hb6.size; have r0 := (Blk.cell hd6 0).trans rfl; have r1 := (Blk.cell hd6 1).trans rfl; have r2 := (Blk.cell hd6 2).trans rfl; have r3 := (Blk.cell hd6 3).trans rfl; have r4 := (Blk.cell hd6 4).trans rfl; have r5 := (Blk.cell hd6 5).trans rfl; have r6 := (Blk.cell hd6 6).trans rfl)
      | (go_at_call 20; (with_reducible refine (kCD w6 hD6).mono ?_); rintro e w7 ⟨rfl, hb7⟩; have hc7 := Blk.below hc6 hb7 (by omega); have hd7 := Blk.below hd6 hb7 (by omega); have hC7 := hC6.below (hb7.mono (by omega)); have hD7 := hD6.bel hb7; have hl7 := hb7.size; have hK7 : KS w w7 (V.heap.size + 1) V.heap.size [] := ⟨(hbk.bel hb6).bel hb7, bl_any (bl_any (bl_any hbV hb5) hb6) hb7, hzV⟩; have s0 := (Blk.cell hd7 0).trans rfl; have s1 := (Blk.cell hd7 1).trans rfl; have s2 := (Blk.cell hd7 2).trans rfl; have s3 := (Blk.cell hd7 3).trans rfl; have s4 := (Blk.cell hd7 4).trans rfl; have s5 := (Blk.cell hd7 5).trans rfl; have s6 := (Blk.cell hd7 6).trans rfl)
      | (go_at_call 11; (with_reducible refine (kAD w7 hK7 hD7).mono ?_); rintro e w8 ⟨rfl, hK8, hA8⟩; have hc8 := Blk.aw hc7 hA8 (by simp; omega); have hC8 := hC7.aw1 hA8 (by omega) (by omega); have t0 := (Blk.cell hc8 0).trans rfl; have t1 := (Blk.cell hc8 1).trans rfl; have t2 := (Blk.cell hc8 2).trans rfl; have t3 := (Blk.cell hc8 3).trans rfl; have t4 := (Blk.cell hc8 4).trans rfl; have t5 := (Blk.cell hc8 5).trans rfl; have t6 := (Blk.cell hc8 6).trans rfl)
      | (go_at_call 11; (with_reducible refine (spAddC g1 R hR hK8 (hC8.more (by have := hA8.size; omega))).mono ?_); rintro e w9 ⟨rfl, hb9, hz9⟩)
      | (go_at_call 20; (with_reducible refine (spMini w9).mono ?_); rintro e w10 ⟨rfl, hb10⟩))
    go_ret
    exact ⟨rfl, bl_any hb9 hb10⟩
  · have hq' : h.tmod 14 = 8 := hq
    clear hq hr14
    go_upto_region 37 with (fail)
    have hdV : Blk (W4.setCell ⟨g2 + 1, 3, none⟩ (.int .i64 121)) (g2 + 1) 30 #[.int .i64 30, .int .i64 4000, .int .i64 120, .int .i64 121, .int .i64 1, .int .i64 3, .slice (some ⟨g1, 0, none⟩) 1 1] := Blk.set_ hd4 3 _
    have hcV := Blk.far hc4 (p := ⟨g2 + 1, 3, none⟩) (by simp) (.int .i64 121)
    have hbV : Below w.heap.size w (W4.setCell ⟨g2 + 1, 3, none⟩ (.int .i64 121)) := bl_set hb4 (by show w.heap.size ≤ g2 + 1; omega) _
    have hAV := (Aw.refl [g2 + 1] W4).setCell (p := ⟨g2 + 1, 3, none⟩) (.inl (by simp)) (.int .i64 121)
    have hcfV : CfgAt (W4.setCell ⟨g2 + 1, 3, none⟩ (.int .i64 121)) g2 (spC g1 R) := hC4.aw1 hAV (by omega) (by omega)
    have hzz : (W4.setCell ⟨g2 + 1, 3, none⟩ (.int .i64 121)).heap.size = g2 + 2 := by rw [← hz4]; simp
    have hDb : cfgB (⟨30, 4000, 120, 121, 1, 3, some ⟨g1, 0, none⟩, 1, [R]⟩ : VCfg) = false := cfg_no _ (by show (protoB 30 && (betw 1 4000 4000 && (betw 1 120 120 && (betw 1 120 121 && (betw 0 1 1 && betw 0 3 3))))) = false; decide +kernel)
    have hDV : CfgAt (W4.setCell ⟨g2 + 1, 3, none⟩ (.int .i64 121)) (W4.setCell ⟨g2 + 1, 3, none⟩ (.int .i64 121)).heap.size (⟨30, 4000, 120, 121, 1, 3, some ⟨g1, 0, none⟩, 1, [R]⟩ : VCfg) := (hcfV.like (y := (⟨30, 4000, 120, 121, 1, 3, some ⟨g1, 0, none⟩, 1, [R]⟩ : VCfg)) rfl rfl).more (Nat.le_trans (Nat.le_add_right g2 2) (Nat.le_of_eq hzz.symm))
    clear e0 e1 e2 e3 e4 e5 e6 f0 f1 f2 f3 f4 f5 f6 hd4 hc4 hC4 hz4 hAV hzz
    generalize (W4.setCell ⟨g2 + 1, 3, none⟩ (.int .i64 121)) = V at *
    have kCD : ∀ W, CfgAt W W.heap.size (⟨30, 4000, 120, 121, 1, 3, some ⟨g1, 0, none⟩, 1, [R]⟩ : VCfg) → Calls Try.prog 20 #[.agg #[.int .i64 30, .int .i64 4000, .int .i64 120, .int .i64 121, .int .i64 1, .int .i64 3, .slice (some ⟨g1, 0, none⟩) 1 1]] W fun e w' => e = .returned (.int .i64 19) ∧ Below W.heap.size W w' := fun W hW => spCheckD (⟨30, 4000, 120, 121, 1, 3, some ⟨g1, 0, none⟩, 1, [R]⟩ : VCfg) hDb W hW
    have kAD : ∀ W, KS w W (V.heap.size + 1) V.heap.size [] → CfgAt W W.heap.size (⟨30, 4000, 120, 121, 1, 3, some ⟨g1, 0, none⟩, 1, [R]⟩ : VCfg) → Calls Try.prog 11 #[.pointer (some ⟨V.heap.size + 1, 0, none⟩), .string ⟨#[116]⟩, .agg #[.int .i64 30, .int .i64 4000, .int .i64 120, .int .i64 121, .int .i64 1, .int .i64 3, .slice (some ⟨g1, 0, none⟩) 1 1]] W fun e w' => e = .returned (.int .i64 19) ∧ KS w w' (V.heap.size + 1) V.heap.size [] ∧ Aw [V.heap.size] W w' := fun W hK hW => spAddD (⟨30, 4000, 120, 121, 1, 3, some ⟨g1, 0, none⟩, 1, [R]⟩ : VCfg) hDb hK hW
    have hlc := Blk.lt hcV
    have hld := Blk.lt hdV
    have hzV := hbV.size
    go_wp2_with (first
      | (go_at_call 8; (with_reducible refine (bnew_any _).mono ?_); rintro e w5 ⟨rfl, hbk, hb5⟩; have hc5 := Blk.below hcV hb5 hlc; have hd5 := Blk.below hdV hb5 hld; have hC5 := hcfV.below (hb5.mono (by omega)); have hD5 := hDV.bel hb5; have hl5 := hb5.size; have q0 := (Blk.cell hc5 0).trans rfl; have q1 := (Blk.cell hc5 1).trans rfl; have q2 := (Blk.cell hc5 2).trans rfl; have q3 := (Blk.cell hc5 3).trans rfl; have q4 := (Blk.cell hc5 4).trans rfl; have q5 := (Blk.cell hc5 5).trans rfl; have q6 := (Blk.cell hc5 6).trans rfl)
      | (go_at_call 20; (with_reducible refine (spCheckC g1 R w5 hR (hC5.more (by omega))).mono ?_); rintro e w6 ⟨rfl, hb6⟩; have hc6 := Blk.below hc5 hb6 (by omega); have hd6 := Blk.below hd5 hb6 (by omega); have hC6 := hC5.below (hb6.mono (by omega)); have hD6 := hD5.bel hb6; have hl6 := hb6.size; have r0 := (Blk.cell hd6 0).trans rfl; have r1 := (Blk.cell hd6 1).trans rfl; have r2 := (Blk.cell hd6 2).trans rfl; have r3 := (Blk.cell hd6 3).trans rfl; have r4 := (Blk.cell hd6 4).trans rfl; have r5 := (Blk.cell hd6 5).trans rfl; have r6 := (Blk.cell hd6 6).trans rfl)
      | (go_at_call 20; (with_reducible refine (kCD w6 hD6).mono ?_); rintro e w7 ⟨rfl, hb7⟩; have hc7 := Blk.below hc6 hb7 (by omega); have hd7 := Blk.below hd6 hb7 (by omega); have hC7 := hC6.below (hb7.mono (by omega)); have hD7 := hD6.bel hb7; have hl7 := hb7.size; have hK7 : KS w w7 (V.heap.size + 1) V.heap.size [] := ⟨(hbk.bel hb6).bel hb7, bl_any (bl_any (bl_any hbV hb5) hb6) hb7, hzV⟩; have s0 := (Blk.cell hd7 0).trans rfl; have s1 := (Blk.cell hd7 1).trans rfl; have s2 := (Blk.cell hd7 2).trans rfl; have s3 := (Blk.cell hd7 3).trans rfl; have s4 := (Blk.cell hd7 4).trans rfl; have s5 := (Blk.cell hd7 5).trans rfl; have s6 := (Blk.cell hd7 6).trans rfl)
      | (go_at_call 11; (with_reducible refine (kAD w7 hK7 hD7).mono ?_); rintro e w8 ⟨rfl, hK8, hA8⟩; have hc8 := Blk.aw hc7 hA8 (by simp; omega); have hC8 := hC7.aw1 hA8 (by omega) (by omega); have t0 := (Blk.cell hc8 0).trans rfl; have t1 := (Blk.cell hc8 1).trans rfl; have t2 := (Blk.cell hc8 2).trans rfl; have t3 := (Blk.cell hc8 3).trans rfl; have t4 := (Blk.cell hc8 4).trans rfl; have t5 := (Blk.cell hc8 5).trans rfl; have t6 := (Blk.cell hc8 6).trans rfl)
      | (go_at_call 11; (with_reducible refine (spAddC g1 R hR hK8 (hC8.more (by have := hA8.size; omega))).mono ?_); rintro e w9 ⟨rfl, hb9, hz9⟩)
      | (go_at_call 20; (with_reducible refine (spMini w9).mono ?_); rintro e w10 ⟨rfl, hb10⟩))
    go_ret
    exact ⟨rfl, bl_any hb9 hb10⟩
  · have hq' : h.tmod 14 = 9 := hq
    clear hq hr14
    go_upto_region 37 with (fail)
    have hdV : Blk (W4.setCell ⟨g2 + 1, 4, none⟩ (.int .i64 2)) (g2 + 1) 30 #[.int .i64 30, .int .i64 4000, .int .i64 120, .int .i64 120, .int .i64 2, .int .i64 3, .slice (some ⟨g1, 0, none⟩) 1 1] := Blk.set_ hd4 4 _
    have hcV := Blk.far hc4 (p := ⟨g2 + 1, 4, none⟩) (by simp) (.int .i64 2)
    have hbV : Below w.heap.size w (W4.setCell ⟨g2 + 1, 4, none⟩ (.int .i64 2)) := bl_set hb4 (by show w.heap.size ≤ g2 + 1; omega) _
    have hAV := (Aw.refl [g2 + 1] W4).setCell (p := ⟨g2 + 1, 4, none⟩) (.inl (by simp)) (.int .i64 2)
    have hcfV : CfgAt (W4.setCell ⟨g2 + 1, 4, none⟩ (.int .i64 2)) g2 (spC g1 R) := hC4.aw1 hAV (by omega) (by omega)
    have hzz : (W4.setCell ⟨g2 + 1, 4, none⟩ (.int .i64 2)).heap.size = g2 + 2 := by rw [← hz4]; simp
    have hDb : cfgB (⟨30, 4000, 120, 120, 2, 3, some ⟨g1, 0, none⟩, 1, [R]⟩ : VCfg) = false := cfg_no _ (by show (protoB 30 && (betw 1 4000 4000 && (betw 1 120 120 && (betw 1 120 120 && (betw 0 1 2 && betw 0 3 3))))) = false; decide +kernel)
    have hDV : CfgAt (W4.setCell ⟨g2 + 1, 4, none⟩ (.int .i64 2)) (W4.setCell ⟨g2 + 1, 4, none⟩ (.int .i64 2)).heap.size (⟨30, 4000, 120, 120, 2, 3, some ⟨g1, 0, none⟩, 1, [R]⟩ : VCfg) := (hcfV.like (y := (⟨30, 4000, 120, 120, 2, 3, some ⟨g1, 0, none⟩, 1, [R]⟩ : VCfg)) rfl rfl).more (Nat.le_trans (Nat.le_add_right g2 2) (Nat.le_of_eq hzz.symm))
    clear e0 e1 e2 e3 e4 e5 e6 f0 f1 f2 f3 f4 f5 f6 hd4 hc4 hC4 hz4 hAV hzz
    generalize (W4.setCell ⟨g2 + 1, 4, none⟩ (.int .i64 2)) = V at *
    have kCD : ∀ W, CfgAt W W.heap.size (⟨30, 4000, 120, 120, 2, 3, some ⟨g1, 0, none⟩, 1, [R]⟩ : VCfg) → Calls Try.prog 20 #[.agg #[.int .i64 30, .int .i64 4000, .int .i64 120, .int .i64 120, .int .i64 2, .int .i64 3, .slice (some ⟨g1, 0, none⟩) 1 1]] W fun e w' => e = .returned (.int .i64 19) ∧ Below W.heap.size W w' := fun W hW => spCheckD (⟨30, 4000, 120, 120, 2, 3, some ⟨g1, 0, none⟩, 1, [R]⟩ : VCfg) hDb W hW
    have kAD : ∀ W, KS w W (V.heap.size + 1) V.heap.size [] → CfgAt W W.heap.size (⟨30, 4000, 120, 120, 2, 3, some ⟨g1, 0, none⟩, 1, [R]⟩ : VCfg) → Calls Try.prog 11 #[.pointer (some ⟨V.heap.size + 1, 0, none⟩), .string ⟨#[116]⟩, .agg #[.int .i64 30, .int .i64 4000, .int .i64 120, .int .i64 120, .int .i64 2, .int .i64 3, .slice (some ⟨g1, 0, none⟩) 1 1]] W fun e w' => e = .returned (.int .i64 19) ∧ KS w w' (V.heap.size + 1) V.heap.size [] ∧ Aw [V.heap.size] W w' := fun W hK hW => spAddD (⟨30, 4000, 120, 120, 2, 3, some ⟨g1, 0, none⟩, 1, [R]⟩ : VCfg) hDb hK hW
    have hlc := Blk.lt hcV
    have hld := Blk.lt hdV
    have hzV := hbV.size
    go_wp2_with (first
      | (go_at_call 8; (with_reducible refine (bnew_any _).mono ?_); rintro e w5 ⟨rfl, hbk, hb5⟩; have hc5 := Blk.below hcV hb5 hlc; have hd5 := Blk.below hdV hb5 hld; have hC5 := hcfV.below (hb5.mono (by omega)); have hD5 := hDV.bel hb5; have hl5 := hb5.size; have q0 := (Blk.cell hc5 0).trans rfl; have q1 := (Blk.cell hc5 1).trans rfl; have q2 := (Blk.cell hc5 2).trans rfl; have q3 := (Blk.cell hc5 3).trans rfl; have q4 := (Blk.cell hc5 4).trans rfl; have q5 := (Blk.cell hc5 5).trans rfl; have q6 := (Blk.cell hc5 6).trans rfl)
      | (go_at_call 20; (with_reducible refine (spCheckC g1 R w5 hR (hC5.more (by omega))).mono ?_); rintro e w6 ⟨rfl, hb6⟩; have hc6 := Blk.below hc5 hb6 (by omega); have hd6 := Blk.below hd5 hb6 (by omega); have hC6 := hC5.below (hb6.mono (by omega)); have hD6 := hD5.bel hb6; have hl6 := hb6.size; have r0 := (Blk.cell hd6 0).trans rfl; have r1 := (Blk.cell hd6 1).trans rfl; have r2 := (Blk.cell hd6 2).trans rfl; have r3 := (Blk.cell hd6 3).trans rfl; have r4 := (Blk.cell hd6 4).trans rfl; have r5 := (Blk.cell hd6 5).trans rfl; have r6 := (Blk.cell hd6 6).trans rfl)
      | (go_at_call 20; (with_reducible refine (kCD w6 hD6).mono ?_); rintro e w7 ⟨rfl, hb7⟩; have hc7 := Blk.below hc6 hb7 (by omega); have hd7 := Blk.below hd6 hb7 (by omega); have hC7 := hC6.below (hb7.mono (by omega)); have hD7 := hD6.bel hb7; have hl7 := hb7.size; have hK7 : KS w w7 (V.heap.size + 1) V.heap.size [] := ⟨(hbk.bel hb6).bel hb7, bl_any (bl_any (bl_any hbV hb5) hb6) hb7, hzV⟩; have s0 := (Blk.cell hd7 0).trans rfl; have s1 := (Blk.cell hd7 1).trans rfl; have s2 := (Blk.cell hd7 2).trans rfl; have s3 := (Blk.cell hd7 3).trans rfl; have s4 := (Blk.cell hd7 4).trans rfl; have s5 := (Blk.cell hd7 5).trans rfl; have s6 := (Blk.cell hd7 6).trans rfl)
      | (go_at_call 11; (with_reducible refine (kAD w7 hK7 hD7).mono ?_); rintro e w8 ⟨rfl, hK8, hA8⟩; have hc8 := Blk.aw hc7 hA8 (by simp; omega); have hC8 := hC7.aw1 hA8 (by omega) (by omega); have t0 := (Blk.cell hc8 0).trans rfl; have t1 := (Blk.cell hc8 1).trans rfl; have t2 := (Blk.cell hc8 2).trans rfl; have t3 := (Blk.cell hc8 3).trans rfl; have t4 := (Blk.cell hc8 4).trans rfl; have t5 := (Blk.cell hc8 5).trans rfl; have t6 := (Blk.cell hc8 6).trans rfl)
      | (go_at_call 11; (with_reducible refine (spAddC g1 R hR hK8 (hC8.more (by have := hA8.size; omega))).mono ?_); rintro e w9 ⟨rfl, hb9, hz9⟩)
      | (go_at_call 20; (with_reducible refine (spMini w9).mono ?_); rintro e w10 ⟨rfl, hb10⟩))
    go_ret
    exact ⟨rfl, bl_any hb9 hb10⟩
  · have hq' : h.tmod 14 = 10 := hq
    clear hq hr14
    go_upto_region 37 with (fail)
    have hdV : Blk (W4.setCell ⟨g2 + 1, 5, none⟩ (.int .i64 4)) (g2 + 1) 30 #[.int .i64 30, .int .i64 4000, .int .i64 120, .int .i64 120, .int .i64 1, .int .i64 4, .slice (some ⟨g1, 0, none⟩) 1 1] := Blk.set_ hd4 5 _
    have hcV := Blk.far hc4 (p := ⟨g2 + 1, 5, none⟩) (by simp) (.int .i64 4)
    have hbV : Below w.heap.size w (W4.setCell ⟨g2 + 1, 5, none⟩ (.int .i64 4)) := bl_set hb4 (by show w.heap.size ≤ g2 + 1; omega) _
    have hAV := (Aw.refl [g2 + 1] W4).setCell (p := ⟨g2 + 1, 5, none⟩) (.inl (by simp)) (.int .i64 4)
    have hcfV : CfgAt (W4.setCell ⟨g2 + 1, 5, none⟩ (.int .i64 4)) g2 (spC g1 R) := hC4.aw1 hAV (by omega) (by omega)
    have hzz : (W4.setCell ⟨g2 + 1, 5, none⟩ (.int .i64 4)).heap.size = g2 + 2 := by rw [← hz4]; simp
    have hDb : cfgB (⟨30, 4000, 120, 120, 1, 4, some ⟨g1, 0, none⟩, 1, [R]⟩ : VCfg) = false := cfg_no _ (by show (protoB 30 && (betw 1 4000 4000 && (betw 1 120 120 && (betw 1 120 120 && (betw 0 1 1 && betw 0 3 4))))) = false; decide +kernel)
    have hDV : CfgAt (W4.setCell ⟨g2 + 1, 5, none⟩ (.int .i64 4)) (W4.setCell ⟨g2 + 1, 5, none⟩ (.int .i64 4)).heap.size (⟨30, 4000, 120, 120, 1, 4, some ⟨g1, 0, none⟩, 1, [R]⟩ : VCfg) := (hcfV.like (y := (⟨30, 4000, 120, 120, 1, 4, some ⟨g1, 0, none⟩, 1, [R]⟩ : VCfg)) rfl rfl).more (Nat.le_trans (Nat.le_add_right g2 2) (Nat.le_of_eq hzz.symm))
    clear e0 e1 e2 e3 e4 e5 e6 f0 f1 f2 f3 f4 f5 f6 hd4 hc4 hC4 hz4 hAV hzz
    generalize (W4.setCell ⟨g2 + 1, 5, none⟩ (.int .i64 4)) = V at *
    have kCD : ∀ W, CfgAt W W.heap.size (⟨30, 4000, 120, 120, 1, 4, some ⟨g1, 0, none⟩, 1, [R]⟩ : VCfg) → Calls Try.prog 20 #[.agg #[.int .i64 30, .int .i64 4000, .int .i64 120, .int .i64 120, .int .i64 1, .int .i64 4, .slice (some ⟨g1, 0, none⟩) 1 1]] W fun e w' => e = .returned (.int .i64 19) ∧ Below W.heap.size W w' := fun W hW => spCheckD (⟨30, 4000, 120, 120, 1, 4, some ⟨g1, 0, none⟩, 1, [R]⟩ : VCfg) hDb W hW
    have kAD : ∀ W, KS w W (V.heap.size + 1) V.heap.size [] → CfgAt W W.heap.size (⟨30, 4000, 120, 120, 1, 4, some ⟨g1, 0, none⟩, 1, [R]⟩ : VCfg) → Calls Try.prog 11 #[.pointer (some ⟨V.heap.size + 1, 0, none⟩), .string ⟨#[116]⟩, .agg #[.int .i64 30, .int .i64 4000, .int .i64 120, .int .i64 120, .int .i64 1, .int .i64 4, .slice (some ⟨g1, 0, none⟩) 1 1]] W fun e w' => e = .returned (.int .i64 19) ∧ KS w w' (V.heap.size + 1) V.heap.size [] ∧ Aw [V.heap.size] W w' := fun W hK hW => spAddD (⟨30, 4000, 120, 120, 1, 4, some ⟨g1, 0, none⟩, 1, [R]⟩ : VCfg) hDb hK hW
    have hlc := Blk.lt hcV
    have hld := Blk.lt hdV
    have hzV := hbV.size
    go_wp2_with (first
      | (go_at_call 8; (with_reducible refine (bnew_any _).mono ?_); rintro e w5 ⟨rfl, hbk, hb5⟩; have hc5 := Blk.below hcV hb5 hlc; have hd5 := Blk.below hdV hb5 hld; have hC5 := hcfV.below (hb5.mono (by omega)); have hD5 := hDV.bel hb5; have hl5 := hb5.size; have q0 := (Blk.cell hc5 0).trans rfl; have q1 := (Blk.cell hc5 1).trans rfl; have q2 := (Blk.cell hc5 2).trans rfl; have q3 := (Blk.cell hc5 3).trans rfl; have q4 := (Blk.cell hc5 4).trans rfl; have q5 := (Blk.cell hc5 5).trans rfl; have q6 := (Blk.cell hc5 6).trans rfl)
      | (go_at_call 20; (with_reducible refine (spCheckC g1 R w5 hR (hC5.more (by omega))).mono ?_); rintro e w6 ⟨rfl, hb6⟩; have hc6 := Blk.below hc5 hb6 (by omega); have hd6 := Blk.below hd5 hb6 (by omega); have hC6 := hC5.below (hb6.mono (by omega)); have hD6 := hD5.bel hb6; have hl6 := hb6.size; have r0 := (Blk.cell hd6 0).trans rfl; have r1 := (Blk.cell hd6 1).trans rfl; have r2 := (Blk.cell hd6 2).trans rfl; have r3 := (Blk.cell hd6 3).trans rfl; have r4 := (Blk.cell hd6 4).trans rfl; have r5 := (Blk.cell hd6 5).trans rfl; have r6 := (Blk.cell hd6 6).trans rfl)
      | (go_at_call 20; (with_reducible refine (kCD w6 hD6).mono ?_); rintro e w7 ⟨rfl, hb7⟩; have hc7 := Blk.below hc6 hb7 (by omega); have hd7 := Blk.below hd6 hb7 (by omega); have hC7 := hC6.below (hb7.mono (by omega)); have hD7 := hD6.bel hb7; have hl7 := hb7.size; have hK7 : KS w w7 (V.heap.size + 1) V.heap.size [] := ⟨(hbk.bel hb6).bel hb7, bl_any (bl_any (bl_any hbV hb5) hb6) hb7, hzV⟩; have s0 := (Blk.cell hd7 0).trans rfl; have s1 := (Blk.cell hd7 1).trans rfl; have s2 := (Blk.cell hd7 2).trans rfl; have s3 := (Blk.cell hd7 3).trans rfl; have s4 := (Blk.cell hd7 4).trans rfl; have s5 := (Blk.cell hd7 5).trans rfl; have s6 := (Blk.cell hd7 6).trans rfl)
      | (go_at_call 11; (with_reducible refine (kAD w7 hK7 hD7).mono ?_); rintro e w8 ⟨rfl, hK8, hA8⟩; have hc8 := Blk.aw hc7 hA8 (by simp; omega); have hC8 := hC7.aw1 hA8 (by omega) (by omega); have t0 := (Blk.cell hc8 0).trans rfl; have t1 := (Blk.cell hc8 1).trans rfl; have t2 := (Blk.cell hc8 2).trans rfl; have t3 := (Blk.cell hc8 3).trans rfl; have t4 := (Blk.cell hc8 4).trans rfl; have t5 := (Blk.cell hc8 5).trans rfl; have t6 := (Blk.cell hc8 6).trans rfl)
      | (go_at_call 11; (with_reducible refine (spAddC g1 R hR hK8 (hC8.more (by have := hA8.size; omega))).mono ?_); rintro e w9 ⟨rfl, hb9, hz9⟩)
      | (go_at_call 20; (with_reducible refine (spMini w9).mono ?_); rintro e w10 ⟨rfl, hb10⟩))
    go_ret
    exact ⟨rfl, bl_any hb9 hb10⟩
  · have hq' : h.tmod 14 = 11 := hq
    clear hq hr14
    go_upto_region 37 with (fail)
    have hdV : Blk (W4.setCell ⟨g2 + 1, 5, none⟩ (.int .i64 (-1))) (g2 + 1) 30 #[.int .i64 30, .int .i64 4000, .int .i64 120, .int .i64 120, .int .i64 1, .int .i64 (-1), .slice (some ⟨g1, 0, none⟩) 1 1] := Blk.set_ hd4 5 _
    have hcV := Blk.far hc4 (p := ⟨g2 + 1, 5, none⟩) (by simp) (.int .i64 (-1))
    have hbV : Below w.heap.size w (W4.setCell ⟨g2 + 1, 5, none⟩ (.int .i64 (-1))) := bl_set hb4 (by show w.heap.size ≤ g2 + 1; omega) _
    have hAV := (Aw.refl [g2 + 1] W4).setCell (p := ⟨g2 + 1, 5, none⟩) (.inl (by simp)) (.int .i64 (-1))
    have hcfV : CfgAt (W4.setCell ⟨g2 + 1, 5, none⟩ (.int .i64 (-1))) g2 (spC g1 R) := hC4.aw1 hAV (by omega) (by omega)
    have hzz : (W4.setCell ⟨g2 + 1, 5, none⟩ (.int .i64 (-1))).heap.size = g2 + 2 := by rw [← hz4]; simp
    have hDb : cfgB (⟨30, 4000, 120, 120, 1, (-1), some ⟨g1, 0, none⟩, 1, [R]⟩ : VCfg) = false := cfg_no _ (by show (protoB 30 && (betw 1 4000 4000 && (betw 1 120 120 && (betw 1 120 120 && (betw 0 1 1 && betw 0 3 (-1)))))) = false; decide +kernel)
    have hDV : CfgAt (W4.setCell ⟨g2 + 1, 5, none⟩ (.int .i64 (-1))) (W4.setCell ⟨g2 + 1, 5, none⟩ (.int .i64 (-1))).heap.size (⟨30, 4000, 120, 120, 1, (-1), some ⟨g1, 0, none⟩, 1, [R]⟩ : VCfg) := (hcfV.like (y := (⟨30, 4000, 120, 120, 1, (-1), some ⟨g1, 0, none⟩, 1, [R]⟩ : VCfg)) rfl rfl).more (Nat.le_trans (Nat.le_add_right g2 2) (Nat.le_of_eq hzz.symm))
    clear e0 e1 e2 e3 e4 e5 e6 f0 f1 f2 f3 f4 f5 f6 hd4 hc4 hC4 hz4 hAV hzz
    generalize (W4.setCell ⟨g2 + 1, 5, none⟩ (.int .i64 (-1))) = V at *
    have kCD : ∀ W, CfgAt W W.heap.size (⟨30, 4000, 120, 120, 1, (-1), some ⟨g1, 0, none⟩, 1, [R]⟩ : VCfg) → Calls Try.prog 20 #[.agg #[.int .i64 30, .int .i64 4000, .int .i64 120, .int .i64 120, .int .i64 1, .int .i64 (-1), .slice (some ⟨g1, 0, none⟩) 1 1]] W fun e w' => e = .returned (.int .i64 19) ∧ Below W.heap.size W w' := fun W hW => spCheckD (⟨30, 4000, 120, 120, 1, (-1), some ⟨g1, 0, none⟩, 1, [R]⟩ : VCfg) hDb W hW
    have kAD : ∀ W, KS w W (V.heap.size + 1) V.heap.size [] → CfgAt W W.heap.size (⟨30, 4000, 120, 120, 1, (-1), some ⟨g1, 0, none⟩, 1, [R]⟩ : VCfg) → Calls Try.prog 11 #[.pointer (some ⟨V.heap.size + 1, 0, none⟩), .string ⟨#[116]⟩, .agg #[.int .i64 30, .int .i64 4000, .int .i64 120, .int .i64 120, .int .i64 1, .int .i64 (-1), .slice (some ⟨g1, 0, none⟩) 1 1]] W fun e w' => e = .returned (.int .i64 19) ∧ KS w w' (V.heap.size + 1) V.heap.size [] ∧ Aw [V.heap.size] W w' := fun W hK hW => spAddD (⟨30, 4000, 120, 120, 1, (-1), some ⟨g1, 0, none⟩, 1, [R]⟩ : VCfg) hDb hK hW
    have hlc := Blk.lt hcV
    have hld := Blk.lt hdV
    have hzV := hbV.size
    go_wp2_with (first
      | (go_at_call 8; (with_reducible refine (bnew_any _).mono ?_); rintro e w5 ⟨rfl, hbk, hb5⟩; have hc5 := Blk.below hcV hb5 hlc; have hd5 := Blk.below hdV hb5 hld; have hC5 := hcfV.below (hb5.mono (by omega)); have hD5 := hDV.bel hb5; have hl5 := hb5.size; have q0 := (Blk.cell hc5 0).trans rfl; have q1 := (Blk.cell hc5 1).trans rfl; have q2 := (Blk.cell hc5 2).trans rfl; have q3 := (Blk.cell hc5 3).trans rfl; have q4 := (Blk.cell hc5 4).trans rfl; have q5 := (Blk.cell hc5 5).trans rfl; have q6 := (Blk.cell hc5 6).trans rfl)
      | (go_at_call 20; (with_reducible refine (spCheckC g1 R w5 hR (hC5.more (by omega))).mono ?_); rintro e w6 ⟨rfl, hb6⟩; have hc6 := Blk.below hc5 hb6 (by omega); have hd6 := Blk.below hd5 hb6 (by omega); have hC6 := hC5.below (hb6.mono (by omega)); have hD6 := hD5.bel hb6; have hl6 := hb6.size; have r0 := (Blk.cell hd6 0).trans rfl; have r1 := (Blk.cell hd6 1).trans rfl; have r2 := (Blk.cell hd6 2).trans rfl; have r3 := (Blk.cell hd6 3).trans rfl; have r4 := (Blk.cell hd6 4).trans rfl; have r5 := (Blk.cell hd6 5).trans rfl; have r6 := (Blk.cell hd6 6).trans rfl)
      | (go_at_call 20; (with_reducible refine (kCD w6 hD6).mono ?_); rintro e w7 ⟨rfl, hb7⟩; have hc7 := Blk.below hc6 hb7 (by omega); have hd7 := Blk.below hd6 hb7 (by omega); have hC7 := hC6.below (hb7.mono (by omega)); have hD7 := hD6.bel hb7; have hl7 := hb7.size; have hK7 : KS w w7 (V.heap.size + 1) V.heap.size [] := ⟨(hbk.bel hb6).bel hb7, bl_any (bl_any (bl_any hbV hb5) hb6) hb7, hzV⟩; have s0 := (Blk.cell hd7 0).trans rfl; have s1 := (Blk.cell hd7 1).trans rfl; have s2 := (Blk.cell hd7 2).trans rfl; have s3 := (Blk.cell hd7 3).trans rfl; have s4 := (Blk.cell hd7 4).trans rfl; have s5 := (Blk.cell hd7 5).trans rfl; have s6 := (Blk.cell hd7 6).trans rfl)
      | (go_at_call 11; (with_reducible refine (kAD w7 hK7 hD7).mono ?_); rintro e w8 ⟨rfl, hK8, hA8⟩; have hc8 := Blk.aw hc7 hA8 (by simp; omega); have hC8 := hC7.aw1 hA8 (by omega) (by omega); have t0 := (Blk.cell hc8 0).trans rfl; have t1 := (Blk.cell hc8 1).trans rfl; have t2 := (Blk.cell hc8 2).trans rfl; have t3 := (Blk.cell hc8 3).trans rfl; have t4 := (Blk.cell hc8 4).trans rfl; have t5 := (Blk.cell hc8 5).trans rfl; have t6 := (Blk.cell hc8 6).trans rfl)
      | (go_at_call 11; (with_reducible refine (spAddC g1 R hR hK8 (hC8.more (by have := hA8.size; omega))).mono ?_); rintro e w9 ⟨rfl, hb9, hz9⟩)
      | (go_at_call 20; (with_reducible refine (spMini w9).mono ?_); rintro e w10 ⟨rfl, hb10⟩))
    go_ret
    exact ⟨rfl, bl_any hb9 hb10⟩
  · have hq' : h.tmod 14 = 12 := hq
    clear hq hr14
    obtain ⟨n4, hn4⟩ : ∃ n, W4.heap.size = n := ⟨_, rfl⟩
    have hn5 : g2 + 2 ≤ n4 := by omega
    clear hz4
    have hm1 : g2 + 1 < n4 := by omega
    have hm2 : ¬ (g2 + 1 = n4) := by omega
    have hm3 : ¬ (n4 = g2 + 1) := by omega
    have hm4 : ¬ (g2 + 1 = n4 + 1) := by omega
    have hm5 : ¬ (n4 + 1 = g2 + 1) := by omega
    have hm6 : g2 + 1 < n4 + 1 := by omega
    have hs5 : (W4.setCell ⟨g2 + 1, 6, none⟩ (.slice (some ⟨n4 + 1, 0, none⟩) 2 2)).heap.size = n4 := by rw [← hn4]; simp
    have hx1 : ((W4.setCell ⟨g2 + 1, 6, none⟩ (.slice (some ⟨n4 + 1, 0, none⟩) 2 2)).alloc (.cells #[.string ⟨#[109, 101, 116, 114, 105, 99]⟩] 9)).heap.size = n4 + 1 := by rw [← hs5]; simp
    have hx2 : (((W4.setCell ⟨g2 + 1, 6, none⟩ (.slice (some ⟨n4 + 1, 0, none⟩) 2 2)).alloc (.cells #[.string ⟨#[109, 101, 116, 114, 105, 99]⟩] 9)).alloc (.cells #[.slice none 0 0, .slice (some ⟨n4, 0, none⟩) 1 1, .slice none 0 0, .slice none 0 0, .slice none 0 0, .slice none 0 0] 63)).heap.size = n4 + 2 := by rw [← hs5]; simp
    have hR1 : RuleAt ((W4.setCell ⟨g2 + 1, 6, none⟩ (.slice (some ⟨n4 + 1, 0, none⟩) 2 2)).alloc (.cells #[.string ⟨#[109, 101, 116, 114, 105, 99]⟩] 9)) ((W4.setCell ⟨g2 + 1, 6, none⟩ (.slice (some ⟨n4 + 1, 0, none⟩) 2 2)).alloc (.cells #[.string ⟨#[109, 101, 116, 114, 105, 99]⟩] 9)).heap.size (spR n4) := by
      have := IsRows.made (f := strCell) (fun _ => rfl) (W4.setCell ⟨g2 + 1, 6, none⟩ (.slice (some ⟨n4 + 1, 0, none⟩) 2 2)) 9 #[.string ⟨#[109, 101, 116, 114, 105, 99]⟩] [⟨#[109, 101, 116, 114, 105, 99]⟩] rfl
      rw [hs5] at this
      exact ⟨IsRows.nil_, this, IsRows.nil_⟩
    have hrow : IsRows ruleC 3 (((W4.setCell ⟨g2 + 1, 6, none⟩ (.slice (some ⟨n4 + 1, 0, none⟩) 2 2)).alloc (.cells #[.string ⟨#[109, 101, 116, 114, 105, 99]⟩] 9)).alloc (.cells #[.slice none 0 0, .slice (some ⟨n4, 0, none⟩) 1 1, .slice none 0 0, .slice none 0 0, .slice none 0 0, .slice none 0 0] 63)) (((W4.setCell ⟨g2 + 1, 6, none⟩ (.slice (some ⟨n4 + 1, 0, none⟩) 2 2)).alloc (.cells #[.string ⟨#[109, 101, 116, 114, 105, 99]⟩] 9)).alloc (.cells #[.slice none 0 0, .slice (some ⟨n4, 0, none⟩) 1 1, .slice none 0 0, .slice none 0 0, .slice none 0 0, .slice none 0 0] 63)).heap.size (some ⟨((W4.setCell ⟨g2 + 1, 6, none⟩ (.slice (some ⟨n4 + 1, 0, none⟩) 2 2)).alloc (.cells #[.string ⟨#[109, 101, 116, 114, 105, 99]⟩] 9)).heap.size, 0, none⟩) 2 [spR n4, spR0] := IsRows.made (f := ruleC) (size := 3) (fun _ => rfl) ((W4.setCell ⟨g2 + 1, 6, none⟩ (.slice (some ⟨n4 + 1, 0, none⟩) 2 2)).alloc (.cells #[.string ⟨#[109, 101, 116, 114, 105, 99]⟩] 9)) 63 #[.slice none 0 0, .slice (some ⟨n4, 0, none⟩) 1 1, .slice none 0 0, .slice none 0 0, .slice none 0 0, .slice none 0 0] [spR n4, spR0] rfl
    rw [hx1] at hrow
    have hDV : CfgAt (((W4.setCell ⟨g2 + 1, 6, none⟩ (.slice (some ⟨n4 + 1, 0, none⟩) 2 2)).alloc (.cells #[.string ⟨#[109, 101, 116, 114, 105, 99]⟩] 9)).alloc (.cells #[.slice none 0 0, .slice (some ⟨n4, 0, none⟩) 1 1, .slice none 0 0, .slice none 0 0, .slice none 0 0, .slice none 0 0] 63)) (((W4.setCell ⟨g2 + 1, 6, none⟩ (.slice (some ⟨n4 + 1, 0, none⟩) 2 2)).alloc (.cells #[.string ⟨#[109, 101, 116, 114, 105, 99]⟩] 9)).alloc (.cells #[.slice none 0 0, .slice (some ⟨n4, 0, none⟩) 1 1, .slice none 0 0, .slice none 0 0, .slice none 0 0, .slice none 0 0] 63)).heap.size (⟨30, 4000, 120, 120, 1, 3, some ⟨n4 + 1, 0, none⟩, 2, [spR n4, spR0]⟩ : VCfg) := by
      refine ⟨hrow, ?_, by show 2 ≤ 2097152; omega⟩
      intro x hx
      have e : x = spR n4 ∨ x = spR0 := by simpa using hx
      rcases e with rfl | rfl
      · exact ⟨hR1.bel ((Below.refl _ _).alloc (Nat.le_refl _) _), spR_ok _⟩
      · exact ⟨⟨IsRows.nil_, IsRows.nil_, IsRows.nil_⟩, ⟨⟨by show 0 ≤ 2097152; omega, by intro x hx; cases hx⟩, ⟨by show 0 ≤ 2097152; omega, by intro x hx; cases hx⟩, ⟨by show 0 ≤ 2097152; omega, by intro x hx; cases hx⟩⟩⟩
    have hdS : Blk (W4.setCell ⟨g2 + 1, 6, none⟩ (.slice (some ⟨n4 + 1, 0, none⟩) 2 2)) (g2 + 1) 30 #[.int .i64 30, .int .i64 4000, .int .i64 120, .int .i64 120, .int .i64 1, .int .i64 3, .slice (some ⟨n4 + 1, 0, none⟩) 2 2] := Blk.set_ hd4 6 _
    have hdV := (hdS.alloc (.cells #[.string ⟨#[109, 101, 116, 114, 105, 99]⟩] 9)).alloc (.cells #[.slice none 0 0, .slice (some ⟨n4, 0, none⟩) 1 1, .slice none 0 0, .slice none 0 0, .slice none 0 0, .slice none 0 0] 63)
    have hcS := Blk.far hc4 (p := ⟨g2 + 1, 6, none⟩) (by simp) (.slice (some ⟨n4 + 1, 0, none⟩) 2 2)
    have hcV := (hcS.alloc (.cells #[.string ⟨#[109, 101, 116, 114, 105, 99]⟩] 9)).alloc (.cells #[.slice none 0 0, .slice (some ⟨n4, 0, none⟩) 1 1, .slice none 0 0, .slice none 0 0, .slice none 0 0, .slice none 0 0] 63)
    have hbV : Below w.heap.size w (((W4.setCell ⟨g2 + 1, 6, none⟩ (.slice (some ⟨n4 + 1, 0, none⟩) 2 2)).alloc (.cells #[.string ⟨#[109, 101, 116, 114, 105, 99]⟩] 9)).alloc (.cells #[.slice none 0 0, .slice (some ⟨n4, 0, none⟩) 1 1, .slice none 0 0, .slice none 0 0, .slice none 0 0, .slice none 0 0] 63)) := bl_alloc (bl_alloc (bl_set hb4 (by show w.heap.size ≤ g2 + 1; omega) _) _) _
    have hAV := (((Aw.refl [g2 + 1] W4).setCell (p := ⟨g2 + 1, 6, none⟩) (.inl (by simp)) (.slice (some ⟨n4 + 1, 0, none⟩) 2 2)).alloc (.cells #[.string ⟨#[109, 101, 116, 114, 105, 99]⟩] 9)).alloc (.cells #[.slice none 0 0, .slice (some ⟨n4, 0, none⟩) 1 1, .slice none 0 0, .slice none 0 0, .slice none 0 0, .slice none 0 0] 63)
    have hcfV : CfgAt (((W4.setCell ⟨g2 + 1, 6, none⟩ (.slice (some ⟨n4 + 1, 0, none⟩) 2 2)).alloc (.cells #[.string ⟨#[109, 101, 116, 114, 105, 99]⟩] 9)).alloc (.cells #[.slice none 0 0, .slice (some ⟨n4, 0, none⟩) 1 1, .slice none 0 0, .slice none 0 0, .slice none 0 0, .slice none 0 0] 63)) g2 (spC g1 R) := hC4.aw1 hAV (by omega) (by omega)
    have hDb : cfgB (⟨30, 4000, 120, 120, 1, 3, some ⟨n4 + 1, 0, none⟩, 2, [spR n4, spR0]⟩ : VCfg) = false := cfg_two _ n4 rfl
    clear hd4 hc4 hC4 hAV hdS hcS hx1 hx2 hR1 hrow hs5
    go_upto_region 37 with (fail)
    clear e0 e1 e2 e3 e4 e5 e6 f0 f1 f2 f3 f4 f5 f6
    generalize (((W4.setCell ⟨g2 + 1, 6, none⟩ (.slice (some ⟨n4 + 1, 0, none⟩) 2 2)).alloc (.cells #[.string ⟨#[109, 101, 116, 114, 105, 99]⟩] 9)).alloc (.cells #[.slice none 0 0, .slice (some ⟨n4, 0, none⟩) 1 1, .slice none 0 0, .slice none 0 0, .slice none 0 0, .slice none 0 0] 63)) = V at *
    clear hn4
    have kCD : ∀ W, CfgAt W W.heap.size (⟨30, 4000, 120, 120, 1, 3, some ⟨n4 + 1, 0, none⟩, 2, [spR n4, spR0]⟩ : VCfg) → Calls Try.prog 20 #[.agg #[.int .i64 30, .int .i64 4000, .int .i64 120, .int .i64 120, .int .i64 1, .int .i64 3, .slice (some ⟨n4 + 1, 0, none⟩) 2 2]] W fun e w' => e = .returned (.int .i64 19) ∧ Below W.heap.size W w' := fun W hW => spCheckD (⟨30, 4000, 120, 120, 1, 3, some ⟨n4 + 1, 0, none⟩, 2, [spR n4, spR0]⟩ : VCfg) hDb W hW
    have kAD : ∀ W, KS w W (V.heap.size + 1) V.heap.size [] → CfgAt W W.heap.size (⟨30, 4000, 120, 120, 1, 3, some ⟨n4 + 1, 0, none⟩, 2, [spR n4, spR0]⟩ : VCfg) → Calls Try.prog 11 #[.pointer (some ⟨V.heap.size + 1, 0, none⟩), .string ⟨#[116]⟩, .agg #[.int .i64 30, .int .i64 4000, .int .i64 120, .int .i64 120, .int .i64 1, .int .i64 3, .slice (some ⟨n4 + 1, 0, none⟩) 2 2]] W fun e w' => e = .returned (.int .i64 19) ∧ KS w w' (V.heap.size + 1) V.heap.size [] ∧ Aw [V.heap.size] W w' := fun W hK hW => spAddD (⟨30, 4000, 120, 120, 1, 3, some ⟨n4 + 1, 0, none⟩, 2, [spR n4, spR0]⟩ : VCfg) hDb hK hW
    have hlc := Blk.lt hcV
    have hld := Blk.lt hdV
    have hzV := hbV.size
    go_wp2_with (first
      | (go_at_call 8; (with_reducible refine (bnew_any _).mono ?_); rintro e w5 ⟨rfl, hbk, hb5⟩; have hc5 := Blk.below hcV hb5 hlc; have hd5 := Blk.below hdV hb5 hld; have hC5 := hcfV.below (hb5.mono (by omega)); have hD5 := hDV.bel hb5; have hl5 := hb5.size; have q0 := (Blk.cell hc5 0).trans rfl; have q1 := (Blk.cell hc5 1).trans rfl; have q2 := (Blk.cell hc5 2).trans rfl; have q3 := (Blk.cell hc5 3).trans rfl; have q4 := (Blk.cell hc5 4).trans rfl; have q5 := (Blk.cell hc5 5).trans rfl; have q6 := (Blk.cell hc5 6).trans rfl)
      | (go_at_call 20; (with_reducible refine (spCheckC g1 R w5 hR (hC5.more (by omega))).mono ?_); rintro e w6 ⟨rfl, hb6⟩; have hc6 := Blk.below hc5 hb6 (by omega); have hd6 := Blk.below hd5 hb6 (by omega); have hC6 := hC5.below (hb6.mono (by omega)); have hD6 := hD5.bel hb6; have hl6 := hb6.size; have r0 := (Blk.cell hd6 0).trans rfl; have r1 := (Blk.cell hd6 1).trans rfl; have r2 := (Blk.cell hd6 2).trans rfl; have r3 := (Blk.cell hd6 3).trans rfl; have r4 := (Blk.cell hd6 4).trans rfl; have r5 := (Blk.cell hd6 5).trans rfl; have r6 := (Blk.cell hd6 6).trans rfl)
      | (go_at_call 20; (with_reducible refine (kCD w6 hD6).mono ?_); rintro e w7 ⟨rfl, hb7⟩; have hc7 := Blk.below hc6 hb7 (by omega); have hd7 := Blk.below hd6 hb7 (by omega); have hC7 := hC6.below (hb7.mono (by omega)); have hD7 := hD6.bel hb7; have hl7 := hb7.size; have hK7 : KS w w7 (V.heap.size + 1) V.heap.size [] := ⟨(hbk.bel hb6).bel hb7, bl_any (bl_any (bl_any hbV hb5) hb6) hb7, hzV⟩; have s0 := (Blk.cell hd7 0).trans rfl; have s1 := (Blk.cell hd7 1).trans rfl; have s2 := (Blk.cell hd7 2).trans rfl; have s3 := (Blk.cell hd7 3).trans rfl; have s4 := (Blk.cell hd7 4).trans rfl; have s5 := (Blk.cell hd7 5).trans rfl; have s6 := (Blk.cell hd7 6).trans rfl)
      | (go_at_call 11; (with_reducible refine (kAD w7 hK7 hD7).mono ?_); rintro e w8 ⟨rfl, hK8, hA8⟩; have hc8 := Blk.aw hc7 hA8 (by simp; omega); have hC8 := hC7.aw1 hA8 (by omega) (by omega); have t0 := (Blk.cell hc8 0).trans rfl; have t1 := (Blk.cell hc8 1).trans rfl; have t2 := (Blk.cell hc8 2).trans rfl; have t3 := (Blk.cell hc8 3).trans rfl; have t4 := (Blk.cell hc8 4).trans rfl; have t5 := (Blk.cell hc8 5).trans rfl; have t6 := (Blk.cell hc8 6).trans rfl)
      | (go_at_call 11; (with_reducible refine (spAddC g1 R hR hK8 (hC8.more (by have := hA8.size; omega))).mono ?_); rintro e w9 ⟨rfl, hb9, hz9⟩)
      | (go_at_call 20; (with_reducible refine (spMini w9).mono ?_); rintro e w10 ⟨rfl, hb10⟩))
    go_ret
    exact ⟨rfl, bl_any hb9 hb10⟩
  · have hq' : h.tmod 14 = 13 := hq
    clear hq hr14
    obtain ⟨i0, hi0, hz0, hz1, hz2⟩ := info_parts Try.infoRule
    have hu : Try.prog.underlying 28 = some (.slice 63) := by kernel_rfl
    go_upto_region 7 with (fail)
    have hdS : Blk (W4.setCell ⟨g2 + 1, 6, none⟩ (.slice none 0 0)) (g2 + 1) 30 #[.int .i64 30, .int .i64 4000, .int .i64 120, .int .i64 120, .int .i64 1, .int .i64 3, .slice none 0 0] := Blk.set_ hd4 6 _
    have hcS := Blk.far hc4 (p := ⟨g2 + 1, 6, none⟩) (by simp) (.slice none 0 0)
    have hAS := (Aw.refl [g2 + 1] W4).setCell (p := ⟨g2 + 1, 6, none⟩) (.inl (by simp)) (.slice none 0 0)
    clear e0 e1 e2 e3 e4 e5 e6 f0 f1 f2 f3 f4 f5 f6 hd4 hc4
    generalize W4.setCell ⟨g2 + 1, 6, none⟩ (.slice none 0 0) = W5 at *
    have HZ4 := Lib.hid hz4
    clear hz4
    go_wp2_with fail
    go_loopw [5] (fun i wr => ∃ (k : Nat) (A : Option Addr) (cc : Nat), k ≤ 7 ∧ i = .int .i64 k ∧ Blk wr (g2 + 1) 30 #[.int .i64 30, .int .i64 4000, .int .i64 120, .int .i64 120, .int .i64 1, .int .i64 3, .slice A k cc] ∧ wr.ownsRow W4.heap.size 63 3 (.slice A k cc) k ((List.replicate k R).flatMap ruleC) ∧ Blk wr g2 30 #[.int .i64 30, .int .i64 4000, .int .i64 120, .int .i64 120, .int .i64 1, .int .i64 3, .slice (some ⟨g1, 0, none⟩) 1 1] ∧ Aw [g2 + 1] W4 wr) (fun i _ => 7 - (intOf i).toNat)
    case atStart => exact ⟨0, none, 0, by omega, rfl, hdS, World.ownsRow_nil _ _ _ _, hcS, hAS⟩
    case round =>
      obtain ⟨k, A, cc, hk, rfl, hdr, hown, hcr, hAr⟩ := hrel
      clear hdS hcS hAS
      have hszr := hAr.size
      by_cases hlt : k < 7
      · have hd : decide ((k : Int) ≤ 6) = true := decide_eq_true (by omega)
        have hk0 : (0 : Int) ≤ k := by omega
        have e6 := (Blk.cell hdr 6).trans rfl
        have f6 := Blk.frozen hdr 6
        have c6 := (Blk.cell hcr 6).trans rfl
        obtain ⟨bb, off, hbb, hg, hcs⟩ := (hC4.aw1 hAr (by have := HZ4.out; omega) (by omega)).rows.2 (by show 0 < 1; omega)
        injection hbb with hbb
        injection hbb with hb1 hb2
        subst hb1; subst hb2
        have q0 : wr.cell? ⟨g1, 0, none⟩ = some (.slice R.fA R.rule.filter.length R.fC) := hcs 0 R 0 _ rfl rfl
        have q1 : wr.cell? ⟨g1, 1, none⟩ = some (.slice R.pA R.rule.parts.length R.pC) := hcs 0 R 1 _ rfl rfl
        have q2 : wr.cell? ⟨g1, 2, none⟩ = some (.slice R.eA R.rule.extra.length R.eC) := hcs 0 R 2 _ rfl rfl
        have hov : ∀ j, (Value.slice A k cc).ownBlock = some j → W4.heap.size ≤ j := fun j e => (hown.lt j e).1
        have hdA := hdr.alloc (.cells #[.slice R.fA R.rule.filter.length R.fC, .slice R.pA R.rule.parts.length R.pC, .slice R.eA R.rule.extra.length R.eC] 63)
        have hdB : Blk (wr.alloc (.cells #[.slice R.fA R.rule.filter.length R.fC, .slice R.pA R.rule.parts.length R.pC, .slice R.eA R.rule.extra.length R.eC] 63)).drew (g2 + 1) 30 #[.int .i64 30, .int .i64 4000, .int .i64 120, .int .i64 120, .int .i64 1, .int .i64 3, .slice A k cc] := hdA
        have e6a := (Blk.cell hdA 6).trans rfl
        have e6b := (Blk.cell hdB 6).trans rfl
        clear hcs
        go_upto_region 10 with (fail)
        go_region_law (go_loud (refine step_append_lies _ (by rfl) _ _ _ (by rfl) W4.heap.size 63 i0 _ 3 72 hu hi0 hz0 hz1 hz2 rfl (by omega) (.slice A k cc) k ((List.replicate k R).flatMap ruleC) (by rfl) (by first | exact hown.alloc _ | exact (hown.alloc _).drew | exact hown.drew.alloc _ | exact (hown.drew.alloc _).drew) ⟨wr.heap.size, 0, none⟩ 1 1 (ruleC R) (by rfl) (by rfl) (World.news_of_block (heap_alloc_new wr _)) (by simp [ruleC, Value.oneCell']) (by omega) (by simp [maxLen]; omega) (by omega) (by simp; omega) (wr.heap.size + 1) (by simp) ?_); intro gg capg w9 hown9 hgrow hat hlt9; have hd9 := Blk.grown (w := (wr.alloc (.cells #[.slice R.fA R.rule.filter.length R.fC, .slice R.pA R.rule.parts.length R.pC, .slice R.eA R.rule.extra.length R.eC] 63)).drew) (hdr.alloc (.cells #[.slice R.fA R.rule.filter.length R.fC, .slice R.pA R.rule.parts.length R.pC, .slice R.eA R.rule.extra.length R.eC] 63)) hgrow (fun e => own_blk_ne hown hdr (by decide) e.symm); have m6 := (Blk.cell hd9 6).trans rfl; have n6 := Blk.frozen hd9 6)
        all_goals
          go_wp2_with fail
          have hc9 := Blk.grown (w := (wr.alloc (.cells #[.slice R.fA R.rule.filter.length R.fC, .slice R.pA R.rule.parts.length R.pC, .slice R.eA R.rule.extra.length R.eC] 63)).drew) (hcr.alloc (.cells #[.slice R.fA R.rule.filter.length R.fC, .slice R.pA R.rule.parts.length R.pC, .slice R.eA R.rule.extra.length R.eC] 63)) hgrow (fun e => own_blk_ne hown hcr (by decide) e.symm)
          have hc10 := Blk.far hc9 (p := ⟨g2 + 1, 6, none⟩) (by simp) (.slice (some ⟨gg, 0, none⟩) (k + 1) capg)
          have hA1 := (Aw.refl [g2 + 1] w9).setCell (p := ⟨g2 + 1, 6, none⟩) (.inl (by simp)) (.slice (some ⟨gg, 0, none⟩) (k + 1) capg)
          have ho10 := own_aw hown9 hA1 (fun g hg hm => by simp at hm; subst hm; exact own_blk_ne hown9 hd9 (by decide) hg)
          rw [rows7] at ho10
          have hA2 : Aw [g2 + 1] W4 w9 := Aw.grown (b := (wr.alloc (.cells #[.slice R.fA R.rule.filter.length R.fC, .slice R.pA R.rule.parts.length R.pC, .slice R.eA R.rule.extra.length R.eC] 63)).drew) (hAr.alloc _).drew hgrow (fun j e => .inr (hov j e))
          exact ⟨⟨k + 1, some ⟨gg, 0, none⟩, capg, by omega, rfl, Blk.set_ hd9 6 _, ho10, hc10, hA2.trans hA1⟩, by (simp only [intOf]; omega)⟩
      · have hd : decide ((k : Int) ≤ 6) = false := decide_eq_false (by omega)
        obtain rfl : k = 7 := by omega
        have hdV := hdr
        have hcV := hcr
        have hz4 := HZ4.out
        have hbV : Below w.heap.size w wr := hb4.trans (hAr.bel_of (fun i hi => by simp at hi; omega) (by omega))
        have hcfV : CfgAt wr g2 (spC g1 R) := hC4.aw1 hAr (by omega) (by omega)
        have hDb : cfgB (⟨30, 4000, 120, 120, 1, 3, A, cc, List.replicate 7 R⟩ : VCfg) = false := cfg_seven _ (by simp)
        have hDV : CfgAt wr wr.heap.size (⟨30, 4000, 120, 120, 1, 3, A, cc, List.replicate 7 R⟩ : VCfg) := by
          refine ⟨own_isRows (f := ruleC) (fun _ => rfl) hown (by simp), ?_, by simp⟩
          intro x hx
          have e : x = R := (List.mem_replicate.1 hx).2
          subst e
          obtain ⟨k1, k2⟩ := hcfV.each x (by simp [spC])
          exact ⟨k1.more (by omega), k2⟩
        clear hdr hcr hC4 hown hAr hz4 HZ4
        obtain ⟨V, hV⟩ : ∃ V, wr = V := ⟨_, rfl⟩
        subst hV
        have kCD : ∀ W, CfgAt W W.heap.size (⟨30, 4000, 120, 120, 1, 3, A, cc, List.replicate 7 R⟩ : VCfg) → Calls Try.prog 20 #[.agg #[.int .i64 30, .int .i64 4000, .int .i64 120, .int .i64 120, .int .i64 1, .int .i64 3, .slice A 7 cc]] W fun e w' => e = .returned (.int .i64 19) ∧ Below W.heap.size W w' := fun W hW => spCheckD (⟨30, 4000, 120, 120, 1, 3, A, cc, List.replicate 7 R⟩ : VCfg) hDb W hW
        have kAD : ∀ W, KS w W (wr.heap.size + 1) wr.heap.size [] → CfgAt W W.heap.size (⟨30, 4000, 120, 120, 1, 3, A, cc, List.replicate 7 R⟩ : VCfg) → Calls Try.prog 11 #[.pointer (some ⟨wr.heap.size + 1, 0, none⟩), .string ⟨#[116]⟩, .agg #[.int .i64 30, .int .i64 4000, .int .i64 120, .int .i64 120, .int .i64 1, .int .i64 3, .slice A 7 cc]] W fun e w' => e = .returned (.int .i64 19) ∧ KS w w' (wr.heap.size + 1) wr.heap.size [] ∧ Aw [wr.heap.size] W w' := fun W hK hW => spAddD (⟨30, 4000, 120, 120, 1, 3, A, cc, List.replicate 7 R⟩ : VCfg) hDb hK hW
        have hlc := Blk.lt hcV
        have hld := Blk.lt hdV
        have hzV := hbV.size
        go_wp2_with (first
          | (go_at_call 8; (with_reducible refine (bnew_any _).mono ?_); rintro e w5 ⟨rfl, hbk, hb5⟩; have hc5 := Blk.below hcV hb5 hlc; have hd5 := Blk.below hdV hb5 hld; have hC5 := hcfV.below (hb5.mono (by omega)); have hD5 := hDV.bel hb5; have hl5 := hb5.size; have q0 := (Blk.cell hc5 0).trans rfl; have q1 := (Blk.cell hc5 1).trans rfl; have q2 := (Blk.cell hc5 2).trans rfl; have q3 := (Blk.cell hc5 3).trans rfl; have q4 := (Blk.cell hc5 4).trans rfl; have q5 := (Blk.cell hc5 5).trans rfl; have q6 := (Blk.cell hc5 6).trans rfl)
          | (go_at_call 20; (with_reducible refine (spCheckC g1 R w5 hR (hC5.more (by omega))).mono ?_); rintro e w6 ⟨rfl, hb6⟩; have hc6 := Blk.below hc5 hb6 (by omega); have hd6 := Blk.below hd5 hb6 (by omega); have hC6 := hC5.below (hb6.mono (by omega)); have hD6 := hD5.bel hb6; have hl6 := hb6.size; have r0 := (Blk.cell hd6 0).trans rfl; have r1 := (Blk.cell hd6 1).trans rfl; have r2 := (Blk.cell hd6 2).trans rfl; have r3 := (Blk.cell hd6 3).trans rfl; have r4 := (Blk.cell hd6 4).trans rfl; have r5 := (Blk.cell hd6 5).trans rfl; have r6 := (Blk.cell hd6 6).trans rfl)
          | (go_at_call 20; (with_reducible refine (kCD w6 hD6).mono ?_); rintro e w7 ⟨rfl, hb7⟩; have hc7 := Blk.below hc6 hb7 (by omega); have hd7 := Blk.below hd6 hb7 (by omega); have hC7 := hC6.below (hb7.mono (by omega)); have hD7 := hD6.bel hb7; have hl7 := hb7.size; have hK7 : KS w w7 (wr.heap.size + 1) wr.heap.size [] := ⟨(hbk.bel hb6).bel hb7, bl_any (bl_any (bl_any hbV hb5) hb6) hb7, hzV⟩; have s0 := (Blk.cell hd7 0).trans rfl; have s1 := (Blk.cell hd7 1).trans rfl; have s2 := (Blk.cell hd7 2).trans rfl; have s3 := (Blk.cell hd7 3).trans rfl; have s4 := (Blk.cell hd7 4).trans rfl; have s5 := (Blk.cell hd7 5).trans rfl; have s6 := (Blk.cell hd7 6).trans rfl)
          | (go_at_call 11; (with_reducible refine (kAD w7 hK7 hD7).mono ?_); rintro e w8 ⟨rfl, hK8, hA8⟩; have hc8 := Blk.aw hc7 hA8 (by simp; omega); have hC8 := hC7.aw1 hA8 (by omega) (by omega); have t0 := (Blk.cell hc8 0).trans rfl; have t1 := (Blk.cell hc8 1).trans rfl; have t2 := (Blk.cell hc8 2).trans rfl; have t3 := (Blk.cell hc8 3).trans rfl; have t4 := (Blk.cell hc8 4).trans rfl; have t5 := (Blk.cell hc8 5).trans rfl; have t6 := (Blk.cell hc8 6).trans rfl)
          | (go_at_call 11; (with_reducible refine (spAddC g1 R hR hK8 (hC8.more (by have := hA8.size; omega))).mono ?_); rintro e w9 ⟨rfl, hb9, hz9⟩)
          | (go_at_call 20; (with_reducible refine (spMini w9).mono ?_); rintro e w10 ⟨rfl, hb10⟩))
        go_ret
        exact ⟨rfl, bl_any hb9 hb10⟩
end Go.Proofs.Ytjffagffjcbolaa
