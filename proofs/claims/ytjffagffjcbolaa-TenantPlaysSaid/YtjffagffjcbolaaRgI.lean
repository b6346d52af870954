/- The walk of the reference's Add. -/
import Derived.Test.YtjffagffjcbolaaRgH
import Derived.Test.YtjffagffjcbolaaTenF
namespace Go.Proofs.Ytjffagffjcbolaa
set_option linter.unusedVariables false
set_option linter.unusedSimpArgs false
open Go.RowKit
attribute [local go_sem ↓] Go.wp_at_zero Go.wp_at_succ
/-- What the reference's Add answers. -/
def gaddE (R : List VTen) (s : ByteArray) (c : VCfg) : Nat := if !(tnameB s.data.toList) || !(cfgB c) then 19 else if 0 ≤ ixN R s then 18 else if 5 ≤ R.length then 14 else 0
set_option maxRecDepth 100000 in
set_option maxHeartbeats 6400000 in
theorem gadd_no (q : Nat) (at_ : Int) (A : Option Addr) (cc : Nat) (R : List VTen) (s : ByteArray) (c : VCfg) (w : World) (h : GwAt w q at_ A cc R) (hs : s.size ≤ 9223372036854775807) (hc : CfgAt w w.heap.size c) (hpn : -9223372036854775808 ≤ c.protos) (hR : R.length ≤ 1000) (E : Nat) (hE : gaddE R s c = E) (h0 : E ≠ 0) :
    Calls Try.prog 12 #[.pointer (some ⟨q, 0, none⟩), .string s, .agg #[.int .i64 c.protos, .int .i64 c.bytes, .int .i64 c.points, .int .i64 c.store, .int .i64 c.mode, .int .i64 c.unit, .slice c.A c.rules.length c.c]] w fun e w' => e = .returned (.int .i64 (E : Nat)) ∧ Below w.heap.size w w' := by
  have hT := fun W => rtenant_any s W hs
  have hbX : Below w.heap.size w (w.alloc (.cells #[.int .i64 c.protos, .int .i64 c.bytes, .int .i64 c.points, .int .i64 c.store, .int .i64 c.mode, .int .i64 c.unit, .slice c.A c.rules.length c.c] 30)) := bl_alloc (Below.refl _ _) _
  have hB := Blk.new w 30 #[.int .i64 c.protos, .int .i64 c.bytes, .int .i64 c.points, .int .i64 c.store, .int .i64 c.mode, .int .i64 c.unit, .slice c.A c.rules.length c.c]
  have h1 := h.bel hbX
  have hc1 := hc.bel hbX
  have kC := rcheck_any c _ hc1 hpn
  unfold cfgE at kC
  have HE : Hid (E = if !(tnameB s.data.toList) || !(cfgB c) then 19 else if 0 ≤ ixN R s then 18 else if 5 ≤ R.length then 14 else 0) := Lib.hid hE.symm
  have H0 := Lib.hid h0
  clear h hc hc1 hE h0 hpn
  go_enter Try.func12, Try.ntmps12
  go_upto_region 1 with (fail)
  generalize w.alloc (.cells #[.int .i64 c.protos, .int .i64 c.bytes, .int .i64 c.points, .int .i64 c.store, .int .i64 c.mode, .int .i64 c.unit, .slice c.A c.rules.length c.c] 30) = W at *
  have d0 := (Blk.cell hB 0).trans rfl; have d1 := (Blk.cell hB 1).trans rfl; have d2 := (Blk.cell hB 2).trans rfl; have d3 := (Blk.cell hB 3).trans rfl; have d4 := (Blk.cell hB 4).trans rfl; have d5 := (Blk.cell hB 5).trans rfl; have d6 := (Blk.cell hB 6).trans rfl
  generalize tnameB s.data.toList = TN at hT HE
  cases TN
  · have e := Lib.hid (show E = 19 by rw [HE.out]; rfl)
    clear kC HE
    go_wp2_with (go_at_call 25; (with_reducible refine (hT _).mono ?_); rintro en w1 ⟨rfl, hw1⟩; rw [hw1]; clear hw1 w1)
    go_ret
    exact ⟨by rw [e.out]; rfl, hbX⟩
  generalize cfgB c = CB at kC HE
  cases CB
  · have e := Lib.hid (show E = 19 by rw [HE.out]; rfl)
    have kC' : Calls Try.prog 21 #[.agg #[.int .i64 c.protos, .int .i64 c.bytes, .int .i64 c.points, .int .i64 c.store, .int .i64 c.mode, .int .i64 c.unit, .slice c.A c.rules.length c.c]] W fun e w' => e = .returned (.int .i64 19) ∧ Below W.heap.size W w' := kC
    clear kC HE
    go_wp2_with (first
      | (go_at_call 25; (with_reducible refine (hT _).mono ?_); rintro en w1 ⟨rfl, hw1⟩; rw [hw1]; clear hw1 w1)
      | (go_at_call 21; (with_reducible refine kC'.mono ?_); rintro en w1 ⟨rfl, hb1⟩))
    go_ret
    exact ⟨by rw [e.out]; rfl, bl_any hbX hb1⟩
  have kC' : Calls Try.prog 21 #[.agg #[.int .i64 c.protos, .int .i64 c.bytes, .int .i64 c.points, .int .i64 c.store, .int .i64 c.mode, .int .i64 c.unit, .slice c.A c.rules.length c.c]] W fun e w' => e = .returned (.int .i64 0) ∧ Below W.heap.size W w' := kC
  clear kC
  have kF := fun w2 (hb : Below W.heap.size W w2) => gfind_any q at_ A cc R s w2 (h1.bel hb) hR
  rcases ixN_cases R s with ⟨hi, _⟩ | ⟨K, X, hi, _, _, hK⟩
  · rw [hi] at kF HE
    by_cases h5 : 5 ≤ R.length
    · have e := Lib.hid (show E = 14 by rw [HE.out, if_pos h5]; rfl)
      have d5' : decide ((5 : Int) ≤ (R.length : Int)) = true := decide_eq_true (by omega)
      have d5n : decide (5 ≤ R.length) = true := decide_eq_true h5
      clear HE hi
      go_wp2_with (first
        | (go_at_call 25; (with_reducible refine (hT _).mono ?_); rintro en w1 ⟨rfl, hw1⟩; rw [hw1]; clear hw1 w1)
        | (go_at_call 21; (with_reducible refine kC'.mono ?_); rintro en w1 ⟨rfl, hb1⟩; have hh := h1.bel hb1; have c0 := (Blk.cell hh.blk 0).trans rfl)
        | (go_at_call 19; (with_reducible refine (kF _ hb1).mono ?_); rintro en w2 ⟨rfl, hw2⟩; rw [hw2]; clear hw2 w2))
      go_ret
      exact ⟨by rw [e.out]; rfl, bl_any hbX hb1⟩
    · exact absurd (by rw [HE.out, if_neg h5]; rfl) H0.out
  · have e := Lib.hid (show E = 18 by rw [HE.out, if_pos (show 0 ≤ ixN R s by omega)]; rfl)
    rw [hi] at kF
    have hKd : decide ((0 : Int) ≤ (K : Int)) = true := decide_eq_true (by omega)
    clear HE hi
    go_wp2_with (first
        | (go_at_call 25; (with_reducible refine (hT _).mono ?_); rintro en w1 ⟨rfl, hw1⟩; rw [hw1]; clear hw1 w1)
        | (go_at_call 21; (with_reducible refine kC'.mono ?_); rintro en w1 ⟨rfl, hb1⟩)
        | (go_at_call 19; (with_reducible refine (kF _ hb1).mono ?_); rintro en w2 ⟨rfl, hw2⟩; rw [hw2]; clear hw2 w2))
    go_ret
    exact ⟨by rw [e.out]; rfl, bl_any hbX hb1⟩
end Go.Proofs.Ytjffagffjcbolaa
