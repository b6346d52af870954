/- The walk of LabelOrder. -/
import Derived.Test.YtlolbpefeagclaaL7b
namespace Go.Proofs.Ytlolbpefeagclaa
open Go.RowKit
set_option maxRecDepth 100000 in
set_option maxHeartbeats 3200000 in
theorem order7_any (A : Option Addr) (n cap : Nat) (L : List Lab) (A2 : Option Addr) (n2 cap2 : Nat) (M : List Lab) (A3 : Option Addr) (n3 cap3 : Nat) (K : List Lab) (cut : Int) (w : World) (hl : IsRows labCell 2 w w.heap.size A n L) (hn : n ≤ cap ∧ cap ≤ 9223372036854775807) (hm : IsRows labCell 2 w w.heap.size A2 n2 M) (hn2 : n2 ≤ 9223372036854775807) (ho : IsRows labCell 2 w w.heap.size A3 n3 K) (hn3 : n3 ≤ 9223372036854775807) (hcut : 0 ≤ cut ∧ cut ≤ 255) :
    Calls Try.prog 5 #[.slice A n cap, .slice A2 n2 cap2, .slice A3 n3 cap3, .int .u8 cut] w fun e w' => e = .returned (.bool true) ∧ Below w.heap.size w w' := by
  cases hsa : shortB L
  · go_enter Try.func5, Try.ntmps5
    go_wp2_with (first
      | (go_at_call 7; refine (known7_any _).mono ?_; rintro e w1 ⟨rfl, hb1⟩)
      | (go_at_call 8; refine (short_any A n cap L _ (hl.step hb1) (by omega)).mono ?_; rintro e w2 ⟨rfl, rfl⟩; rw [hsa]))
    go_ret
    exact ⟨rfl, hb1⟩
  cases hsb : shortB M
  · go_enter Try.func5, Try.ntmps5
    go_wp2_with (first
      | (go_at_call 7; refine (known7_any _).mono ?_; rintro e w1 ⟨rfl, hb1⟩)
      | (go_at_call 8; with_reducible refine (short_any A n cap L _ (hl.step hb1) (by omega)).mono ?_; rintro e w2 ⟨rfl, rfl⟩; rw [hsa])
      | (go_at_call 8; with_reducible refine (short_any A2 n2 cap2 M _ (hm.step hb1) hn2).mono ?_; rintro e w2 ⟨rfl, rfl⟩; rw [hsb]))
    go_ret
    exact ⟨rfl, hb1⟩
  cases hsc : shortB K
  · go_enter Try.func5, Try.ntmps5
    go_wp2_with (first
      | (go_at_call 7; refine (known7_any _).mono ?_; rintro e w1 ⟨rfl, hb1⟩)
      | (go_at_call 8; with_reducible refine (short_any A n cap L _ (hl.step hb1) (by omega)).mono ?_; rintro e w2 ⟨rfl, rfl⟩; rw [hsa])
      | (go_at_call 8; with_reducible refine (short_any A2 n2 cap2 M _ (hm.step hb1) hn2).mono ?_; rintro e w2 ⟨rfl, rfl⟩; rw [hsb])
      | (go_at_call 8; with_reducible refine (short_any A3 n3 cap3 K _ (ho.step hb1) hn3).mono ?_; rintro e w2 ⟨rfl, rfl⟩; rw [hsc]))
    go_ret
    exact ⟨rfl, hb1⟩
  obtain ⟨_, hna⟩ := shortB_all hsa
  obtain ⟨_, hnb⟩ := shortB_all hsb
  obtain ⟨_, hnc⟩ := shortB_all hsc
  have hll := hl.1
  have hml := hm.1
  have hol := ho.1
  obtain ⟨ct, rfl⟩ : ∃ ct : Nat, cut = (ct : Int) := ⟨cut.toNat, by omega⟩
  obtain ⟨m, hmn, hmod⟩ : ∃ m : Nat, m ≤ n ∧ (ct : Int) % ((n : Int) + 1) = (m : Int) := ⟨ct % (n + 1), by have := Nat.mod_lt ct (show n + 1 > 0 by omega); omega, by rw [Int.natCast_emod]; rfl⟩
  have k1 := fun W h g => labCompare_any A n cap L A2 n2 cap2 M W h (by omega) g (by omega)
  have k2 := fun W h g => labCompare_any A2 n2 cap2 M A3 n3 cap3 K W h (by omega) g (by omega)
  have k3 := fun W h g => labCompare_any A n cap L A3 n3 cap3 K W h (by omega) g (by omega)
  have k4 := fun W h g => labCompare_any A m cap (L.take m) A n cap L W h (by omega) g (by omega)
  have k5 := fun W h g => labCompare_any A2 n2 cap2 M A n cap L W h (by omega) g (by omega)
  have k6 := fun W h g => refSame_any A n cap L A2 n2 cap2 M W h (by omega) g (by omega)
  have hxyz := cmpRow_trans L M K
  have hbx := cmpRow_bd L M
  have hby := cmpRow_bd M K
  have hbz := cmpRow_bd L K
  have htk := cmpRow_take L m (by omega)
  have hs : sameB L M = (cmpRow L M == 0) := bcl (by unfold sameB; rw [decide_eq_true_eq, beq_iff_eq])
  rw [hs] at k6
  rw [cmpRow_swap L M] at k5
  generalize cmpRow L M = x at *
  generalize cmpRow M K = y at *
  generalize cmpRow L K = z at *
  generalize cmpRow (L.take m) L = u at *
  have hu0 : decide (u ≤ 0) = true := decide_eq_true htk.1
  have hu1 : (u == 0) = ((m : Int) == n) := bcl (by rw [beq_iff_eq, beq_iff_eq, htk.2, hll]; omega)
  have hu2 : u ≤ 0 := htk.1
  have hsz : ∀ (h : x ≤ 0) (g : y ≤ 0), z ≤ 0 := hxyz
  have hq0 : (0 : Int) ≤ m := by omega
  have hq1 : (m : Int) ≤ n := by omega
  have hq2 : (m : Int) ≤ cap := by omega
  have hq3 : (0 : Int) ≤ ct := by omega
  have hn20 : (n : Int) ≤ 20 := by omega
  have hnz : ¬ ((n : Int) + 1 = 0) := by omega
  have hnz2 : ((n : Int) + 1 == 0) = false := by (rw [beq_eq_false_iff_ne]; omega)
  clear hs hxyz htk hna hnb hnc
  rcases (by omega : x ≤ 0 ∧ y ≤ 0 ∨ 0 < x ∨ (x ≤ 0 ∧ 0 < y)) with ⟨hx, hy⟩ | hx | ⟨hx, hy⟩
  all_goals
    (try have hz := hsz hx hy)
    clear hsz
    go_enter Try.func5, Try.ntmps5
    go_wp2_with (first
      | (go_at_call 7; refine (known7_any _).mono ?_; rintro e w1 ⟨rfl, hb1⟩; have hl1 := hl.step hb1; have hm1 := hm.step hb1; have ho1 := ho.step hb1)
      | (go_at_call 8; with_reducible refine (short_any A n cap L _ hl1 (by omega)).mono ?_; rintro e w2 ⟨rfl, rfl⟩; rw [hsa])
      | (go_at_call 8; with_reducible refine (short_any A2 n2 cap2 M _ hm1 hn2).mono ?_; rintro e w2 ⟨rfl, rfl⟩; rw [hsb])
      | (go_at_call 8; with_reducible refine (short_any A3 n3 cap3 K _ ho1 hn3).mono ?_; rintro e w2 ⟨rfl, rfl⟩; rw [hsc])
      | (go_at_call 16; with_reducible refine (k1 _ hl1 hm1).mono ?_; rintro e w2 ⟨rfl, hb2⟩; have hl2 := hl1.step hb2; have hm2 := hm1.step hb2; have ho2 := ho1.step hb2)
      | (go_at_call 16; with_reducible refine (k2 _ hm2 ho2).mono ?_; rintro e w3 ⟨rfl, hb3⟩; have hl3 := hl2.step hb3; have hm3 := hm2.step hb3; have ho3 := ho2.step hb3)
      | (go_at_call 16; with_reducible refine (k3 _ hl3 ho3).mono ?_; rintro e w4 ⟨rfl, hb4⟩; have hl4 := hl3.step hb4; have hm4 := hm3.step hb4)
      | (go_at_call 16; with_reducible refine (k4 _ (rows_take hmn hl4) hl4).mono ?_; rintro e w5 ⟨rfl, hb5⟩; have hl5 := hl4.step hb5; have hm5 := hm4.step hb5)
      | (go_at_call 16; with_reducible refine (k5 _ hm5 hl5).mono ?_; rintro e w6 ⟨rfl, hb6⟩; have hl6 := hl5.step hb6; have hm6 := hm5.step hb6)
      | (go_at_call 13; with_reducible refine (k6 _ hl6 hm6).mono ?_; rintro e w7 ⟨rfl, hb7⟩))
    all_goals
      go_ret
      exact ⟨by first | rfl | exact ret_bool (by first | (simp; done) | (simp; omega)), bl_any (bl_any (bl_any (bl_any (bl_any (bl_any hb1 hb2) hb3) hb4) hb5) hb6) hb7⟩
end Go.Proofs.Ytlolbpefeagclaa
