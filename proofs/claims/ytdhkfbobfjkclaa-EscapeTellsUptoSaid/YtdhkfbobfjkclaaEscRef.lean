/- The walks of the reference's Escape, hex, Undo, Back. -/
import Derived.Test.YtdhkfbobfjkclaaL13a
import Derived.Test.YtdhkfbobfjkclaaL13c
import Derived.BigQuiet
namespace Go.Proofs.Ytdhkfbobfjkclaa
open Go.RowKit
theorem put1 (x : List UInt8) (s : ByteArray) (k : Nat) (h : k < s.size) : (⟨x.toArray⟩ : ByteArray) ++ s.extract k (k + 1) = ⟨(x ++ [s.data.toList.getD k 0]).toArray⟩ := by
  apply bytes_ext
  have e : (s.extract k (k + 1)).data.toList = [s.data.toList.getD k 0] := by
    rw [getD_at s k h, ByteArray.data_extract, Array.toList_extract, List.extract_eq_take_drop, Nat.add_sub_cancel_left, List.drop_eq_getElem_cons (by simpa using h)]
    rfl
  rw [ByteArray.data_append, Array.toList_append, e]
theorem hex_ext (n : Nat) (h : n < 16) : ((⟨#[48, 49, 50, 51, 52, 53, 54, 55, 56, 57, 97, 98, 99, 100, 101, 102]⟩ : ByteArray).extract n (n + 1)).data.toList = [hexB n] := by
  have : ∀ n : Fin 16, ((⟨#[48, 49, 50, 51, 52, 53, 54, 55, 56, 57, 97, 98, 99, 100, 101, 102]⟩ : ByteArray).extract n.1 (n.1 + 1)).data.toList = [hexB n.1] := by decide
  exact this ⟨n, h⟩
theorem put4 (p wh : Int) (s : ByteArray) (k : Nat) (h : k < s.size) (hs : staysB p wh s.data.toList k = false) :
    (⟨(escTo p wh s.data.toList k).toArray⟩ : ByteArray) ++ (⟨#[95, 120]⟩ ++ (⟨#[48, 49, 50, 51, 52, 53, 54, 55, 56, 57, 97, 98, 99, 100, 101, 102]⟩ : ByteArray).extract ((s[k]'h).toNat / 16) ((s[k]'h).toNat / 16 + 1) ++ (⟨#[48, 49, 50, 51, 52, 53, 54, 55, 56, 57, 97, 98, 99, 100, 101, 102]⟩ : ByteArray).extract ((s[k]'h).toNat % 16) ((s[k]'h).toNat % 16 + 1)) = ⟨(escTo p wh s.data.toList (k + 1)).toArray⟩ := by
  have h255 := (s[k]'h).toNat_lt
  apply bytes_ext
  rw [escTo, escAt, if_neg (by simp [hs]), getD_at s k h]
  rw [ByteArray.data_append, Array.toList_append, ByteArray.data_append, Array.toList_append, ByteArray.data_append, Array.toList_append, hex_ext _ (by omega), hex_ext _ (by omega)]
  rfl
theorem shr4 (n : Nat) (t : TypeId) (w : World) : (binOp .shr t (.int .u8 n) (.int .u64 4)).run Try.prog w = .ok (.int .u8 ((n / 16 : Nat) : Int)) w := by
  exact congrArg (fun z => Result.ok (Value.int .u8 z) w) (Int.ofNat_fdiv n 16).symm
theorem and15 (n : Nat) (h : n < 256) (t : TypeId) (w : World) : (binOp .and t (.int .u8 n) (.int .u8 15)).run Try.prog w = .ok (.int .u8 ((n % 16 : Nat) : Int)) w := by
  have : ∀ m : Nat, m < 256 → IntKind.u8.wrap ((BitVec.ofInt IntKind.u8.bits (m : Int) &&& BitVec.ofInt IntKind.u8.bits 15).toNat : Int) = ((m % 16 : Nat) : Int) := by decide +kernel
  show Result.ok (Value.int .u8 (IntKind.u8.wrap ((BitVec.ofInt IntKind.u8.bits (n : Int) &&& BitVec.ofInt IntKind.u8.bits 15).toNat : Int))) w = _
  rw [this n h]
set_option maxRecDepth 100000 in
set_option maxHeartbeats 1600000 in
theorem refEscape_any (p wh : Int) (s : ByteArray) (w : World) (hs : s.size ≤ 1048576) :
    Calls Try.prog 31 #[.int .i64 p, .int .i64 wh, .string s] w fun e w' => e = .returned (.string ⟨(escB p wh s.data.toList).toArray⟩) ∧ Below w.heap.size w w' := by
  go_enter Try.func31, Try.ntmps31
  go_wp2_with fail
  go_loopw [7, 8] (fun o i wr => Below w.heap.size w wr ∧ ∃ k : Nat, k ≤ s.size ∧ i = .int .i64 k ∧ o = .string ⟨(escTo p wh s.data.toList k).toArray⟩) (fun _ i _ => s.size - (intOf i).toNat)
  case atStart => exact ⟨Below.refl _ _, 0, by omega, rfl, rfl⟩
  case round =>
    obtain ⟨hbx, k, hk, rfl, rfl⟩ := hrel
    by_cases hlt : k < s.size
    · have hdk : decide ((k : Int) < s.size) = true := decide_eq_true (by omega)
      have hk0 : (0 : Int) ≤ k := by omega
      have hk1 : (k : Int) < s.size := by omega
      have hk3 : (k : Int) ≤ s.size := by omega
      have hk4 : (k : Int) + 1 ≤ s.size := by omega
      have hk5 : (0 : Int) ≤ (k : Int) + 1 := by omega
      have hx := escTo_len p wh s.data.toList k
      have hcc : ¬ 9223372036854775807 < (escTo p wh s.data.toList k).length + (min (k + 1) s.size - k) := by omega
      have hmk := mark_at s k hlt
      have h255 := (s[k]'hlt).toNat_lt
      obtain ⟨u, hu⟩ : ∃ u, (s[k]'hlt).toNat / 16 = u := ⟨_, rfl⟩
      obtain ⟨v, hv⟩ : ∃ v, (s[k]'hlt).toNat % 16 = v := ⟨_, rfl⟩
      have hu16 : u < 16 := by omega
      have hv16 : v < 16 := by omega
      have sh : ∀ (t : TypeId) (w : World), (binOp .shr t (.int .u8 ((s[k]'hlt).toNat : Int)) (.int .u64 4)).run Try.prog w = .ok (.int .u8 (u : Int)) w := fun t w => by (rw [shr4, hu])
      have an : ∀ (t : TypeId) (w : World), (binOp .and t (.int .u8 ((s[k]'hlt).toNat : Int)) (.int .u8 15)).run Try.prog w = .ok (.int .u8 (v : Int)) w := fun t w => by (rw [and15 _ h255, hv])
      have u1 : IntKind.u8.wrap ((u : Int) + 1) = u + 1 := by (simp [IntKind.wrap, IntKind.bits, IntKind.signed]; omega)
      have v1 : IntKind.u8.wrap ((v : Int) + 1) = v + 1 := by (simp [IntKind.wrap, IntKind.bits, IntKind.signed]; omega)
      have u2 : (u : Int) ≤ 16 := by omega
      have v2 : (v : Int) ≤ 16 := by omega
      have u3 : (u : Int) + 1 ≤ 16 := by omega
      have v3 : (v : Int) + 1 ≤ 16 := by omega
      have cc1 : ¬ 9223372036854775807 < 2 + (min (u + 1) 16 - u) := by omega
      have cc2 : ¬ 9223372036854775807 < 2 + (min (u + 1) 16 - u) + (min (v + 1) 16 - v) := by omega
      have cc3 : ¬ 9223372036854775807 < (escTo p wh s.data.toList k).length + (2 + (min (u + 1) 16 - u) + (min (v + 1) 16 - v)) := by omega
      have u4 : (0 : Int) ≤ (u : Int) + 1 := by omega
      have v4 : (0 : Int) ≤ (v : Int) + 1 := by omega
      cases hL : legalB p wh s.data.toList k
      · clear hu hv
        go_wp2_with (go_at_call 16; refine (refLegal_any _ _ _ _ _ (by omega)).mono ?_; rintro e w3 ⟨rfl, rfl⟩; rw [hL])
        go_quiet (fail)
        go_wp2_with fail
        exact ⟨⟨bl_drewN hbx _, k + 1, by omega, rfl, congrArg Value.string (put4 p wh s k hlt (by simp [staysB, hL, hmk]))⟩, by (simp only [intOf]; omega)⟩
      · cases c1 : (((s[k]'hlt).toNat : Int) == 95)
        · rw [c1] at hmk
          go_wp2_with (go_at_call 16; refine (refLegal_any _ _ _ _ _ (by omega)).mono ?_; rintro e w3 ⟨rfl, rfl⟩; rw [hL])
          exact ⟨⟨hbx, k + 1, by omega, rfl, congrArg Value.string (by (rw [put1 _ s k hlt, escTo, escAt, if_pos (by simp [staysB, hL, hmk])]))⟩, by (simp only [intOf]; omega)⟩
        · by_cases h1 : k + 1 < s.size
          · have hd1 : decide ((k : Int) + 1 < s.size) = true := decide_eq_true (by omega)
            have hk2 : (k : Int) + 1 < s.size := by omega
            rw [c1, dif_pos h1] at hmk
            cases c2 : (((s[k + 1]'h1).toNat : Int) == 120)
            · rw [c2] at hmk
              go_wp2_with (go_at_call 16; refine (refLegal_any _ _ _ _ _ (by omega)).mono ?_; rintro e w3 ⟨rfl, rfl⟩; rw [hL])
              exact ⟨⟨hbx, k + 1, by omega, rfl, congrArg Value.string (by (rw [put1 _ s k hlt, escTo, escAt, if_pos (by simp [staysB, hL, hmk])]))⟩, by (simp only [intOf]; omega)⟩
            · rw [c2] at hmk
              clear hu hv
              go_wp2_with (go_at_call 16; refine (refLegal_any _ _ _ _ _ (by omega)).mono ?_; rintro e w3 ⟨rfl, rfl⟩; rw [hL])
              go_quiet (fail)
              go_wp2_with fail
              exact ⟨⟨bl_drewN hbx _, k + 1, by omega, rfl, congrArg Value.string (put4 p wh s k hlt (by simp [staysB, hL, hmk]))⟩, by (simp only [intOf]; omega)⟩
          · have hd1 : decide ((k : Int) + 1 < s.size) = false := decide_eq_false (by omega)
            rw [c1, dif_neg h1] at hmk
            go_wp2_with (go_at_call 16; refine (refLegal_any _ _ _ _ _ (by omega)).mono ?_; rintro e w3 ⟨rfl, rfl⟩; rw [hL])
            exact ⟨⟨hbx, k + 1, by omega, rfl, congrArg Value.string (by (rw [put1 _ s k hlt, escTo, escAt, if_pos (by simp [staysB, hL, hmk])]))⟩, by (simp only [intOf]; omega)⟩
    · have hdk : decide ((k : Int) < s.size) = false := decide_eq_false (by omega)
      obtain rfl : k = s.size := by omega
      go_wp2_with fail
      go_ret
      exact ⟨rfl, hbx⟩
end Go.Proofs.Ytdhkfbobfjkclaa
