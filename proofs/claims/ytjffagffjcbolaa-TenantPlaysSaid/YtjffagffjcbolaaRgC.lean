/- The walks of the reference's tenants: names, protocols, texts one by one. -/
import Derived.Test.YtjffagffjcbolaaRgB2
import Derived.Test.YtjffagffjcbolaaTenE
import Derived.Test.YtjffagffjcbolaaLabC
namespace Go.Proofs.Ytjffagffjcbolaa
set_option linter.unusedVariables false
set_option linter.unusedSimpArgs false
open Go.RowKit
theorem tn_cases2 (c : Int) : (tnC c = true ∧ ((decide (97 ≤ c) = true ∧ decide (c ≤ 122) = true) ∨ (decide (97 ≤ c) = false ∧ decide (48 ≤ c) = true ∧ decide (c ≤ 57) = true) ∨ (decide (97 ≤ c) = false ∧ decide (48 ≤ c) = false ∧ (c == 45) = true))) ∨
    (tnC c = false ∧ ((decide (97 ≤ c) = false ∧ decide (48 ≤ c) = false ∧ (c == 45) = false) ∨ (decide (97 ≤ c) = false ∧ decide (48 ≤ c) = true ∧ decide (c ≤ 57) = false ∧ (c == 45) = false) ∨ (decide (97 ≤ c) = true ∧ decide (c ≤ 122) = false ∧ decide (48 ≤ c) = true ∧ decide (c ≤ 57) = false ∧ (c == 45) = false))) := by
  unfold tnC smB digB
  simp only [Bool.or_eq_true, Bool.and_eq_true, decide_eq_true_eq, decide_eq_false_iff_not, beq_iff_eq, beq_eq_false_iff_ne, Bool.or_eq_false_iff, Bool.and_eq_false_iff, ne_eq]
  omega
set_option maxHeartbeats 3200000 in
theorem rtenant_any (s : ByteArray) (w : World) (hs : s.size ≤ 9223372036854775807) :
    Calls Try.prog 25 #[.string s] w fun e w' => e = .returned (.bool (tnameB s.data.toList)) ∧ w' = w := by
  have HL : Hid (s.data.toList.length = s.size) := Lib.hid (by simp)
  have HZ := Lib.hid (some_len s)
  obtain ⟨V, hV⟩ : ∃ V, inksB tnC s.data.toList = V := ⟨_, rfl⟩
  have HB : Hid (tnameB s.data.toList = (V && decide (s.size ≤ 16))) := Lib.hid (by unfold tnameB; rw [hV, HL.out])
  have HV := Lib.hid hV
  clear hV
  go_enter Try.func25, Try.ntmps25
  go_wp2_with fail
  go_loop [3] (fun i => ∃ k : Nat, k ≤ s.size ∧ i = .int .i64 k ∧ Hid (∀ j, j < k → tnC (bt s.data.toList j) = true)) (fun i => s.size - (intOf i).toNat)
  case atStart => exact ⟨0, by omega, rfl, Lib.hid (fun j h => by omega)⟩
  case round =>
    obtain ⟨k, hk, rfl, HG⟩ := hrel
    by_cases hlt : k < s.size
    · have hd : decide ((k : Int) < s.size) = true := decide_eq_true (by omega)
      have hk0 : (0 : Int) ≤ k := by omega
      have hk1 : (k : Int) < s.size := by omega
      have HC := Lib.hid (getElem_bt hlt)
      obtain ⟨c, hc⟩ : ∃ c : Int, ((s[k]'hlt).toNat : Int) = c := ⟨_, rfl⟩
      have HC2 : Hid (bt s.data.toList k = c) := Lib.hid (by rw [← hc]; exact HC.out.symm)
      rcases tn_cases2 c with ⟨ht, hq⟩ | ⟨ht, hq⟩
      · have HF : Hid (∀ j, j < k + 1 → tnC (bt s.data.toList j) = true) := Lib.hid (fun j hj => by
          by_cases e : j = k
          · rw [e, HC2.out]; exact ht
          · exact HG.out j (by omega))
        clear ht HG
        rcases hq with ⟨d1, d2⟩ | ⟨d1, d2, d3⟩ | ⟨d1, d2, d3⟩
        all_goals
          go_wp2_with fail
          exact ⟨⟨k + 1, by omega, rfl, HF⟩, by (simp only [intOf]; omega)⟩
      · have HF : Hid (V = false) := Lib.hid (by rw [← HV.out]; exact inks_no (by rw [HL.out]; exact hlt) (by rw [HC2.out]; exact ht))
        clear ht HG
        rcases hq with ⟨d1, d2, d3⟩ | ⟨d1, d2, d3, d4⟩ | ⟨d1, d2, d3, d4, d5⟩
        all_goals
          go_wp2_with fail
          go_ret
          exact ⟨ret_bool (by rw [HB.out, HF.out]; rfl), rfl⟩
    · have hd : decide ((k : Int) < s.size) = false := decide_eq_false (by omega)
      have HF : Hid (V = decide (0 < s.size)) := Lib.hid (by rw [← HV.out, ← HZ.out]; exact inks_yes (fun j hj => HG.out j (by rw [HL.out] at hj; omega)))
      clear HG HV HZ
      by_cases h1 : 1 ≤ s.size
      · have d1 : decide ((1 : Int) ≤ (s.size : Int)) = true := decide_eq_true (by omega)
        have d2 : decide (1 ≤ s.size) = true := decide_eq_true h1
        have d3 : decide (0 < s.size) = true := decide_eq_true h1
        go_wp2_with fail
        go_ret
        exact ⟨ret_bool (by rw [HB.out, HF.out]; apply bcl; simp; omega), rfl⟩
      · have d1 : decide ((1 : Int) ≤ (s.size : Int)) = false := decide_eq_false (by omega)
        have d2 : decide (1 ≤ s.size) = false := decide_eq_false h1
        have d3 : decide (0 < s.size) = false := decide_eq_false h1
        go_wp2_with fail
        go_ret
        exact ⟨ret_bool (by rw [HB.out, HF.out, d3]; rfl), rfl⟩
theorem risProto_any (p : Int) (w : World) : Calls Try.prog 43 #[.int .i64 p] w fun e w' => e = .returned (.bool (isP p)) ∧ w' = w := by
  cases h1 : decide ((1 : Int) ≤ p)
  · go_enter Try.func43, Try.ntmps43
    go_wp2_with fail
    go_ret
    exact ⟨ret_bool (by unfold isP; rw [h1]; rfl), rfl⟩
  · go_enter Try.func43, Try.ntmps43
    go_wp2_with fail
    go_ret
    exact ⟨ret_bool (by unfold isP; rw [h1]; first | rfl | simp), rfl⟩
theorem rallows_any (x : VCfg) (p : Int) (w : World) : Calls Try.prog 30 #[.agg #[.int .i64 x.protos, .int .i64 x.bytes, .int .i64 x.points, .int .i64 x.store, .int .i64 x.mode, .int .i64 x.unit, .slice x.A x.rules.length x.c], .int .i64 p] w fun e w' => e = .returned (.bool (allowsB x.protos p)) ∧ Below w.heap.size w w' := by
  have k := fun W => risProto_any p W
  have hA : Below w.heap.size w (w.alloc (.cells #[.int .i64 x.protos, .int .i64 x.bytes, .int .i64 x.points, .int .i64 x.store, .int .i64 x.mode, .int .i64 x.unit, .slice x.A x.rules.length x.c] 30)) := bl_alloc (Below.refl _ _) _
  rcases isP_cases p with h | rfl | rfl | rfl | rfl
  · rw [h] at k
    have HX : Hid (allowsB x.protos p = false) := Lib.hid (by unfold allowsB; rw [h]; rfl)
    go_enter Try.func30, Try.ntmps30
    go_wp2_with (go_at_call 43; (with_reducible refine (k _).mono ?_); rintro e w1 ⟨rfl, hw1⟩; rw [hw1]; clear hw1 w1)
    go_ret
    exact ⟨ret_bool (by rw [HX.out]), hA⟩
  all_goals
    have k' : ∀ W, Calls Try.prog 43 #[.int .i64 _] W fun e w' => e = .returned (.bool true) ∧ w' = W := k
    clear k
    go_enter Try.func30, Try.ntmps30
    go_wp2_with (go_at_call 43; (with_reducible refine (k' _).mono ?_); rintro e w1 ⟨rfl, hw1⟩; rw [hw1]; clear hw1 w1)
    go_ret
    exact ⟨ret_bool (by first | rfl | (unfold allowsB; rfl)), hA⟩
set_option maxRecDepth 100000 in
set_option maxHeartbeats 1600000 in
theorem rtexts_same (A : Option Addr) (n cap : Nat) (A2 : Option Addr) (cap2 : Nat) (xs : List ByteArray) (w : World) (hl : IsRows strCell 1 w w.heap.size A n xs) (hl2 : IsRows strCell 1 w w.heap.size A2 n xs) (hn : n ≤ 2097152) :
    Calls Try.prog 37 #[.slice A n cap, .slice A2 n cap2] w fun e w' => e = .returned (.bool true) ∧ Below w.heap.size w w' := by
  go_enter Try.func37, Try.ntmps37
  go_wp2_with fail
  go_loopw [5] (fun i wr => Below w.heap.size w wr ∧ ∃ k : Nat, k ≤ n ∧ i = .int .i64 k) (fun i _ => n - (intOf i).toNat)
  case atStart => exact ⟨Below.refl _ _, 0, by omega, rfl⟩
  case round =>
    obtain ⟨hbw, k, hk, rfl⟩ := hrel
    by_cases hlt : k < n
    · have hdk : decide ((k : Int) < (n : Int)) = true := decide_eq_true (by omega)
      have hk0 : (0 : Int) ≤ k := by omega
      have hk1 : (k : Int) < (n : Int) := by omega
      obtain ⟨b, off, x, rfl, hgb, hx, e0⟩ := str_at (hl.bel hbw) hlt
      obtain ⟨b2, off2, y, rfl, hgb2, hy, e1⟩ := str_at (hl2.bel hbw) hlt
      obtain rfl : x = y := by rw [hx] at hy; injection hy
      clear hx hy
      go_wp2_with fail
      go_quiet (fail)
      go_wp2_with fail
      exact ⟨⟨bl_drewN hbw _, k + 1, by omega, rfl⟩, by (simp only [intOf]; omega)⟩
    · have hdk : decide ((k : Int) < (n : Int)) = false := decide_eq_false (by omega)
      go_wp2_with fail
      go_ret
      exact ⟨rfl, hbw⟩
end Go.Proofs.Ytjffagffjcbolaa
