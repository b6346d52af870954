/- The walks of the reference's line: a measurement that begins with a hash; a text with a backslash ahead of some signs. -/
import Derived.Test.YtdngieihlcknmaaRefD
import Derived.Test.YtdngieihlcknmaaLineH
import Derived.Test.YtdngieihlcknmaaLineA
namespace Go.Proofs.Ytdngieihlcknmaa
set_option linter.unusedVariables false
set_option linter.unusedSimpArgs false
open Go.RowKit
set_option maxRecDepth 100000 in
set_option maxHeartbeats 6400000 in
/-- A measurement that begins with a hash. -/
theorem signs20_hash (g : Nat) (s : ByteArray) (a : Nat) (w : World) (h : Sr w g s a false) (ha : a < s.size) (hs : s.size ≤ 1048576) (h35 : bt s.data.toList a = 35) :
    Calls Try.prog 38 #[.pointer (some ⟨g, 0, none⟩), .string ⟨#[44, 32]⟩, .bool false, .bool true] w fun e w' => e = .returned (.string ⟨#[]⟩) ∧ Sr w' g s a true ∧ Aw [g] w w' := by
  have hs2 : s.size ≤ 4611686018427387904 := Nat.le_trans hs (by decide)
  have hbt := getElem_bt ha
  rw [h35] at hbt
  have hd : decide ((a : Int) < (s.size : Int)) = true := decide_eq_true (by omega)
  have hi0 : (0 : Int) ≤ a := by omega
  have hi1 : (a : Int) < s.size := by omega
  have hh : hasB (⟨#[44, 32]⟩ : ByteArray).data.toList 35 = false := by decide
  have hB0 : SB w w g s a false [] (.slice none 0 0) := ⟨h, World.ownsRow_nil _ _ _ _, Aw.refl _ _, h.lt⟩
  obtain ⟨⟨c0, c1, c2⟩, f1, f2⟩ := h.facts
  have hm0 := h.mOf
  clear h35
  go_enter Try.func38, Try.ntmps38
  go_wp2_with fail
  go_loopw [10] (fun v wr => v = .slice none 0 0 ∧ wr = w) (fun _ wr => mOf wr g s)
  case atStart => exact ⟨rfl, rfl⟩
  case round =>
    obtain ⟨hv, rfl⟩ := hrel
    subst hv
    go_wp2_with fail
    go_quiet (fail)
    go_upto_region 4 with fail
    go_quiet (fail)
    try simp only [World.drewN_drewN]
    generalize hW : wr.drewN _ = W
    have hB4 : SB wr W g s a false [] (.slice none 0 0) := by rw [← hW]; exact hB0.drewN _
    clear hW
    have hcv1 := conv_own (hB4.set (p := ⟨g, 2, none⟩) rfl (hB4.1.no1 true)).2.1
    obtain ⟨⟨d0, d1, d2⟩, g1, g2⟩ := hB4.1.facts
    go_wp2_with (go_at_call 27; refine (hasC20' hh (by decide) _).mono ?_; rintro e w8 ⟨rfl, hw8⟩; rw [hw8]; clear hw8 w8)
    go_ret
    exact ⟨rfl, hB4.1.no1 true, hB4.2.2.1.setCell (.inl (by simp)) _⟩
set_option maxRecDepth 100000 in
set_option maxHeartbeats 1600000 in
theorem quote20_any (s m : ByteArray) (w : World) (hs : s.size ≤ 1048576) (hm : m.size ≤ 1048576) :
    Calls Try.prog 14 #[.string s, .string m] w fun e w' => e = .returned (.string (mkS (markL m.data.toList s.data.toList))) ∧ w' = w := by
  have hL : s.data.toList.length = s.size := by simp
  have hm2 : m.size ≤ 4611686018427387904 := Nat.le_trans hm (by decide)
  obtain ⟨T, hT⟩ : ∃ T, mkS (markL m.data.toList s.data.toList) = T := ⟨_, rfl⟩
  rw [hT]
  have HT := Lib.hid hT
  clear hT
  go_enter Try.func14, Try.ntmps14
  go_wp2_with fail
  go_loopw [5, 6] (fun o i wr => wr = w ∧ ∃ k : Nat, k ≤ s.size ∧ i = .int .i64 k ∧ o = .string (mkS (markL m.data.toList (s.data.toList.take k)))) (fun _ i _ => s.size - (intOf i).toNat)
  case atStart => exact ⟨rfl, 0, by omega, rfl, rfl⟩
  case round =>
    obtain ⟨rfl, k, hk, rfl, rfl⟩ := hrel
    by_cases hlt : k < s.size
    · have hdk : decide ((k : Int) < s.size) = true := decide_eq_true (by omega)
      have hx := markL_len m.data.toList (s.data.toList.take k)
      rw [List.length_take, hL] at hx
      have hst : markL m.data.toList (s.data.toList.take (k + 1)) = _ := (congrArg _ (take_snoc s.data.toList k (by omega))).trans (markL_snoc m.data.toList (s.data.toList.take k) (s.data.toList.getD k 0))
      have hc0 : s.data.toList.getD k 0 = s[k]'hlt := by
        rw [List.getD_eq_getElem?_getD, List.getElem?_eq_getElem (by omega)]; rfl
      rw [hc0] at hst
      have hk1 : (k : Int) < s.size := by omega
      have hk0 : (0 : Int) ≤ k := by omega
      have hk2 : (k : Int) ≤ (k : Int) + 1 := by omega
      have hk3 : (k : Int) + 1 ≤ s.size := by omega
      have hk4 : ((k : Int) + 1).toNat = k + 1 := by omega
      have he : s.extract k (k + 1) = mkS [s[k]'hlt] := by
        apply bytes_ext
        rw [ext_bytes, Nat.add_sub_cancel_left, List.drop_eq_getElem_cons (by omega), List.take_succ_cons, List.take_zero]; rfl
      have hsz : (mkS (markL m.data.toList (s.data.toList.take k))).size = (markL m.data.toList (s.data.toList.take k)).length := rfl
      obtain ⟨acc, hacc⟩ : ∃ acc, mkS (markL m.data.toList (s.data.toList.take k)) = acc := ⟨_, rfl⟩
      have hacz : acc.size ≤ 2 * 1048576 := by rw [← hacc, hsz]; omega
      cases hq : isMk m.data.toList (s[k]'hlt)
      · have HS : Hid (mkS (markL m.data.toList (s.data.toList.take (k + 1))) = acc ++ s.extract k (k + 1)) := Lib.hid (by rw [hst, hq, he, ← mk_app, hacc]; rfl)
        have hh : hasB m.data.toList ((s[k]'hlt).toNat : Int) = false := hq
        rw [hacc]
        have hl1 : ¬ 9223372036854775807 < acc.size + (min (k + 1) s.size - k) := by omega
        clear hst hc0 hsz hacc hx he hq
        go_wp2_with (go_at_call 27; refine (hasC20' hh hm2 _).mono ?_; rintro e w8 ⟨rfl, hw8⟩; rw [hw8]; clear hw8 w8)
        exact ⟨⟨trivial, k + 1, by omega, rfl, by rw [HS.out]⟩, by (simp only [intOf]; omega)⟩
      · have HS : Hid (mkS (markL m.data.toList (s.data.toList.take (k + 1))) = (acc ++ ⟨#[92]⟩) ++ s.extract k (k + 1)) := Lib.hid (by rw [hst, hq, he, ← mk_app, hacc, if_pos rfl, show ([92, s[k]'hlt] : List UInt8) = [92] ++ [s[k]'hlt] from rfl, ← mk_app, ByteArray.append_assoc]; rfl)
        have hh : hasB m.data.toList ((s[k]'hlt).toNat : Int) = true := hq
        rw [hacc]
        have hl1 : ¬ 9223372036854775807 < acc.size + 1 + (min (k + 1) s.size - k) := by omega
        have hl2 : ¬ 9223372036854775807 < acc.size + 1 := by omega
        clear hst hc0 hsz hacc hx he hq
        go_wp2_with (go_at_call 27; refine (hasC20' hh hm2 _).mono ?_; rintro e w8 ⟨rfl, hw8⟩; rw [hw8]; clear hw8 w8)
        exact ⟨⟨trivial, k + 1, by omega, rfl, by rw [HS.out]⟩, by (simp only [intOf]; omega)⟩
    · have hdk : decide ((k : Int) < s.size) = false := decide_eq_false (by omega)
      obtain rfl : k = s.size := by omega
      rw [List.take_of_length_le (by omega), HT.out]
      go_wp2_with fail
      go_ret
      exact ⟨rfl, rfl⟩
end Go.Proofs.Ytdngieihlcknmaa
