/- Tenants: what is known of them: the walk of known. -/
import Derived.Test.YtjffagffjcbolaaTenH
namespace Go.Proofs.Ytjffagffjcbolaa
set_option linter.unusedVariables false
set_option linter.unusedSimpArgs false
open Go.RowKit
theorem ints2 (w : World) (x y : Int) : IsRows intCell 1 (w.alloc (.cells #[.int .i64 x, .int .i64 y] 3)) (w.alloc (.cells #[.int .i64 x, .int .i64 y] 3)).heap.size (some ⟨w.heap.size, 0, none⟩) 2 [x, y] := IsRows.made (f := intCell) (fun _ => rfl) w _ _ [x, y] rfl
set_option maxRecDepth 100000 in
set_option maxHeartbeats 12800000 in
theorem known29_any (w : World) : Calls Try.prog 7 #[] w fun e w' => e = .returned (.bool true) ∧ Below w.heap.size w w' := by
  go_enter Try.func7, Try.ntmps7
  go_upto_region 5 with (go_at_call 8; (with_reducible refine (bnew_any _).mono ?_); rintro e w1 ⟨rfl, hbk, hb1⟩)
  have hK1 : KS w w1 (w.heap.size + 1) w.heap.size [] := ⟨hbk, hb1, Nat.le_refl _⟩
  have hc := Blk.new w1 30 #[.int .i64 18, .int .i64 100, .int .i64 10, .int .i64 20, .int .i64 0, .int .i64 0, .slice none 0 0]
  have hq1 : w.heap.size < w1.heap.size := hbk.lt
  have hK2 := hK1.alloc (.cells #[.int .i64 18, .int .i64 100, .int .i64 10, .int .i64 20, .int .i64 0, .int .i64 0, .slice none 0 0] 30)
  clear hbk hb1 hK1
  generalize w1.alloc (.cells #[.int .i64 18, .int .i64 100, .int .i64 10, .int .i64 20, .int .i64 0, .int .i64 0, .slice none 0 0] 30) = W2 at *
  generalize w1.heap.size = q at *
  generalize hbz : w.heap.size = b at *
  have hqb : q ∉ [b] := by simp; omega
  have q0 := (Blk.cell hc 0).trans rfl; have q1 := (Blk.cell hc 1).trans rfl; have q2 := (Blk.cell hc 2).trans rfl; have q3 := (Blk.cell hc 3).trans rfl; have q4 := (Blk.cell hc 4).trans rfl; have q5 := (Blk.cell hc 5).trans rfl; have q6 := (Blk.cell hc 6).trans rfl
  go_upto_region 6 with (go_at_call 11; (with_reducible refine (kadd1 hK2).mono ?_); rintro e w3 ⟨rfl, ⟨A, c, hK3⟩, hA3⟩)
  have hc3 := Blk.aw hc hA3 hqb
  clear hc hA3 hK2 q0 q1 q2 q3 q4 q5 q6
  have q0 := (Blk.cell hc3 0).trans rfl; have q1 := (Blk.cell hc3 1).trans rfl; have q2 := (Blk.cell hc3 2).trans rfl; have q3 := (Blk.cell hc3 3).trans rfl; have q4 := (Blk.cell hc3 4).trans rfl; have q5 := (Blk.cell hc3 5).trans rfl; have q6 := (Blk.cell hc3 6).trans rfl
  go_upto_region 7 with (go_at_call 11; (with_reducible refine (kadd2 hK3).mono ?_); rintro e w4 ⟨rfl, hK4, hA4⟩)
  have hc4 := Blk.aw hc3 hA4 hqb
  clear hc3 hA4 hK3 q0 q1 q2 q3 q4 q5 q6
  have q0 := (Blk.cell hc4 0).trans rfl; have q1 := (Blk.cell hc4 1).trans rfl; have q2 := (Blk.cell hc4 2).trans rfl; have q3 := (Blk.cell hc4 3).trans rfl; have q4 := (Blk.cell hc4 4).trans rfl; have q5 := (Blk.cell hc4 5).trans rfl; have q6 := (Blk.cell hc4 6).trans rfl
  go_upto_region 8 with (go_at_call 11; (with_reducible refine (kadd3 hK4).mono ?_); rintro e w5 ⟨rfl, hK5, hA5⟩)
  clear hc4 hA5 hK4 q0 q1 q2 q3 q4 q5 q6
  go_upto_region 9 with (go_at_call 18; (with_reducible refine (kget1 hK5).mono ?_); rintro e w6 ⟨⟨A6, c6, rfl⟩, hK6, hb6⟩)
  have hd := Blk.new w6 30 #[.int .i64 18, .int .i64 100, .int .i64 10, .int .i64 20, .int .i64 0, .int .i64 0, .slice A6 0 c6]
  have hK7 := hK6.alloc (.cells #[.int .i64 18, .int .i64 100, .int .i64 10, .int .i64 20, .int .i64 0, .int .i64 0, .slice A6 0 c6] 30)
  clear hK5 hK6 hb6
  generalize w6.alloc (.cells #[.int .i64 18, .int .i64 100, .int .i64 10, .int .i64 20, .int .i64 0, .int .i64 0, .slice A6 0 c6] 30) = W7 at *
  generalize w6.heap.size = dd at *
  have hdl := Blk.lt hd
  go_upto_region 10 with (go_at_call 18; (with_reducible refine (kget2 hK7).mono ?_); rintro e w8 ⟨⟨A8, c8, rfl⟩, hK8, hb8⟩)
  have hd9 := (Blk.below hd hb8 hdl).alloc (.cells #[.int .i64 0, .int .i64 0, .int .i64 0, .int .i64 0, .int .i64 0, .int .i64 0, .slice A8 0 c8] 30)
  have hK9 := hK8.alloc (.cells #[.int .i64 0, .int .i64 0, .int .i64 0, .int .i64 0, .int .i64 0, .int .i64 0, .slice A8 0 c8] 30)
  clear hK7 hK8 hb8 hd
  generalize w8.alloc (.cells #[.int .i64 0, .int .i64 0, .int .i64 0, .int .i64 0, .int .i64 0, .int .i64 0, .slice A8 0 c8] 30) = W9 at *
  have hdl9 := Blk.lt hd9
  go_wp2_with (first
    | (go_at_call 17; (with_reducible refine (kname hK9).mono ?_); rintro e w10 ⟨⟨g10, k10, rfl, hn10⟩, hK10, hb10⟩; have hd10 := Blk.below hd9 hb10 hdl9; have q1 := (Blk.cell hd10 1).trans rfl)
    | (go_at_call 15; (with_reducible refine (kmayG (kM A c) ⟨#[116]⟩ (by decide) _ 2 2 0 [1, 4] (hK10.alloc _) (ints2 w10 1 4) (by decide) (kMay1 A c)).mono ?_); rintro e w11 ⟨rfl, hK11, hb11⟩)
    | (go_at_call 15; (with_reducible refine (kmayG (kM A c) ⟨#[116]⟩ (by decide) _ 2 2 17 [1, 2] (hK11.alloc _) (ints2 w11 1 2) (by decide) (kMay2 A c)).mono ?_); rintro e w12 ⟨rfl, hK12, hb12⟩)
    | (go_at_call 15; (with_reducible refine (kmayG (kM A c) ⟨#[117]⟩ (by decide) none 0 0 18 [] hK12 IsRows.nil_ (by decide) (kMay3 A c)).mono ?_); rintro e w13 ⟨rfl, hK13, hb13⟩)
    | (go_at_call 20; (with_reducible refine (kcheck0 hK13).mono ?_); rintro e w14 ⟨rfl, hK14⟩)
    | (go_at_call 13; (with_reducible refine (kdrop1 hK14).mono ?_); rintro e w15 ⟨rfl, hK15⟩)
    | (go_at_call 13; (with_reducible refine (kdrop2 hK15).mono ?_); rintro e w16 ⟨rfl, hK16⟩))
  go_ret
  rw [hbz]
  exact ⟨rfl, by have := hK16.bl; rw [hbz] at this; exact this⟩
end Go.Proofs.Ytjffagffjcbolaa
