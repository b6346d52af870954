/- The walks of package escape: Escape. -/
import Derived.Test.YtdhkfbobfjkclaaCharset3
import Derived.Test.YtdhkfbobfjkclaaBuild
import Derived.Test.YtdhkfbobfjkclaaOwn
import Derived.Test.YtdhkfbobfjkclaaShelfE
import Derived.Test.YtdhkfbobfjkclaaMem
import Derived.Deep.RegionHeld3
import Derived.Deep.QuietTactic
import Derived.Deep.DeepCutAuto
namespace Go.Proofs.Ytdhkfbobfjkclaa
open Go.RowKit
/-! ### the plain functions -/
def hexB : Nat → UInt8
  | 0 => 48 | 1 => 49 | 2 => 50 | 3 => 51 | 4 => 52 | 5 => 53 | 6 => 54 | 7 => 55 | 8 => 56 | 9 => 57
  | 10 => 97 | 11 => 98 | 12 => 99 | 13 => 100 | 14 => 101 | _ => 102
def markB (l : List UInt8) (i : Nat) : Bool := Lib.hasPrefix (l.drop i) [95, 120]
def staysB (p wh : Int) (l : List UInt8) (i : Nat) : Bool := legalB p wh l i && !markB l i
def escAt (p wh : Int) (l : List UInt8) (i : Nat) : List UInt8 :=
  if staysB p wh l i = true then [l.getD i 0] else [95, 120, hexB ((l.getD i 0).toNat / 16), hexB ((l.getD i 0).toNat % 16)]
def escTo (p wh : Int) (l : List UInt8) : Nat → List UInt8
  | 0 => []
  | n + 1 => escTo p wh l n ++ escAt p wh l n
def escB (p wh : Int) (l : List UInt8) : List UInt8 := escTo p wh l l.length
theorem escAt_len (p wh : Int) (l : List UInt8) (i : Nat) : (escAt p wh l i).length ≤ 4 := by
  unfold escAt; split <;> simp
theorem escTo_len (p wh : Int) (l : List UInt8) : ∀ n : Nat, (escTo p wh l n).length ≤ 4 * n
  | 0 => by simp [escTo]
  | n + 1 => by
    have h1 := escTo_len p wh l n
    have h2 := escAt_len p wh l n
    simp only [escTo, List.length_append]; omega
theorem byteCells_app (a b : List UInt8) : Lib.byteCells (a ++ b) = Lib.byteCells a ++ Lib.byteCells b := by simp [Lib.byteCells]
theorem data_drop (s : ByteArray) (k : Nat) : (s.extract k s.size).data.toList = s.data.toList.drop k := by
  rw [ByteArray.data_extract, Array.toList_extract]; simp [List.extract, List.take_of_length_le]
theorem hex_at : ∀ (n : Nat) (h : n < 16), (((⟨#[48, 49, 50, 51, 52, 53, 54, 55, 56, 57, 97, 98, 99, 100, 101, 102]⟩ : ByteArray)[n]'h).toNat : Int) = (hexB n).toNat := by
  have : ∀ n : Fin 16, (((⟨#[48, 49, 50, 51, 52, 53, 54, 55, 56, 57, 97, 98, 99, 100, 101, 102]⟩ : ByteArray)[n.1]'n.2).toNat : Int) = (hexB n.1).toNat := by decide
  exact fun n h => this ⟨n, h⟩
theorem getD_at (s : ByteArray) (k : Nat) (h : k < s.size) : s.data.toList.getD k 0 = s[k] := by
  rw [List.getD_eq_getElem?_getD, List.getElem?_eq_getElem (by simpa using h)]; rfl
theorem esc_keep (p wh : Int) (s : ByteArray) (k : Nat) (h : k < s.size) (hL : legalB p wh s.data.toList k = true) (hM : markB s.data.toList k = false) :
    Lib.byteCells (escTo p wh s.data.toList (k + 1)) = Lib.byteCells (escTo p wh s.data.toList k) ++ [.int .u8 (s[k]'h).toNat] := by
  rw [escTo, byteCells_app, escAt, if_pos (by simp [staysB, hL, hM]), getD_at s k h]; rfl
theorem esc_hex (p wh : Int) (s : ByteArray) (k : Nat) (h : k < s.size) (hs : staysB p wh s.data.toList k = false) (a b : Int) (ha : a = (hexB ((s[k]'h).toNat / 16)).toNat) (hb : b = (hexB ((s[k]'h).toNat % 16)).toNat) :
    Lib.byteCells (escTo p wh s.data.toList (k + 1)) = Lib.byteCells (escTo p wh s.data.toList k) ++ Lib.strCells ⟨#[95, 120]⟩ ++ [.int .u8 a] ++ [.int .u8 b] := by
  rw [escTo, byteCells_app, escAt, if_neg (by simp [hs]), getD_at s k h, ha, hb]
  simp [Lib.byteCells, Lib.strCells]
set_option maxRecDepth 100000 in
set_option maxHeartbeats 1600000 in
theorem escape_any (p wh : Int) (s : ByteArray) (w : World) (hs : s.size ≤ 1048576) :
    Calls Try.prog 30 #[.int .i64 p, .int .i64 wh, .string s] w fun e w' => e = .returned (.string ⟨(escB p wh s.data.toList).toArray⟩) ∧ Below w.heap.size w w' := by
  go_enter Try.func30, Try.ntmps30
  go_wp2_with fail
  go_loopw [11] (fun i wr => Below w.heap.size w wr ∧ ∃ k : Nat, k ≤ s.size ∧ i = .int .i64 k ∧ Lib.IsBuilder 65 5 w.heap.size w.heap.size (Lib.byteCells (escTo p wh s.data.toList k)) wr) (fun i _ => s.size - (intOf i).toNat)
  case atStart => exact ⟨bl_alloc (Below.refl _ _) _, 0, by omega, rfl, bld_new⟩
  case round =>
    obtain ⟨hbw, k, hk, rfl, hB⟩ := hrel
    by_cases hlt : k < s.size
    · have hdk : decide ((k : Int) < s.size) = true := decide_eq_true (by omega)
      have hx := escTo_len p wh s.data.toList k
      have hP : Lib.hasPrefix (s.extract k s.size).data.toList (⟨#[95, 120]⟩ : ByteArray).data.toList = markB s.data.toList k := by (rw [data_drop]; rfl)
      have Hc : bt s.data.toList k = ((s[k]'hlt).toNat : Int) := (getElem_bt hlt).symm
      have h255 := (s[k]'hlt).toNat_lt
      have hm2 : (⟨#[95, 120]⟩ : ByteArray).size = 2 := rfl
      have hi1 : 0 ≤ ((s[k]'hlt).toNat : Int) / 16 % 256 ∧ ((s[k]'hlt).toNat : Int) / 16 % 256 < 16 := by omega
      have hi2 : 0 ≤ ((s[k]'hlt).toNat : Int) % 16 % 256 ∧ ((s[k]'hlt).toNat : Int) % 16 % 256 < 16 := by omega
      have hi3 : 0 ≤ ((s[k]'hlt).toNat : Int) % 16 ∧ ((s[k]'hlt).toNat : Int) % 16 < 16 := by omega
      cases hL : legalB p wh s.data.toList k
      · go_wp2_with (first
            | (go_at_call 15; refine (legal_any _ _ _ _ _ (by omega)).mono ?_; rintro e w1 ⟨rfl, hb1⟩; rw [hL]; have hB1 := bld_bel (by first | exact hB | exact bld_drewN hB _) hb1; have hs1 := hb1.size; have hw1 := hbw.size)
            | (go_at_call 48; refine (wstr_any _ _ _ _ _ hB1 (by (rw [Lib.byteCells_length]; show _ + 2 ≤ _; omega)) (by omega)).mono ?_; rintro e w3 ⟨rfl, hB3, hb3⟩; have hs3 := hb3.size)
            | (go_at_call 47; first
              | (refine (wbyte_any _ _ _ _ _ (.inr hB4) (by (simp [Lib.byteCells_length, Lib.strCells_length]; omega)) (by omega)).mono ?_; rintro e w5 ⟨rfl, hB5, hb5⟩; have hs5 := hb5.size)
              | (go_loud (refine (wbyte_any _ _ _ _ _ (.inr hB3) (by (simp [Lib.byteCells_length, Lib.strCells_length]; omega)) (by omega)).mono ?_); rintro e w4 ⟨rfl, hB4, hb4⟩; have hs4 := hb4.size)))
        exact ⟨⟨bl_mark (bl_mark (bl_mark (bl_any hbw hb1) hb3) hb4) hb5, k + 1, by omega, rfl, by (rw [esc_hex p wh s k hlt (by simp [staysB, hL]) _ _ (hex_at _ (by omega)) (hex_at _ (by omega))]; exact .inr hB5)⟩, by (simp only [intOf]; omega)⟩
      · cases hM : markB s.data.toList k
        · go_wp2_with (first
            | (go_at_call 15; refine (legal_any _ _ _ _ _ (by omega)).mono ?_; rintro e w1 ⟨rfl, hb1⟩; rw [hL]; have hB1 := bld_bel (by first | exact hB | exact bld_drewN hB _) hb1; have hs1 := hb1.size; have hw1 := hbw.size)
            | (go_at_call 46; refine (Try.strings_HasPrefix _ _ _).mono ?_; rintro e w2 ⟨rfl, rfl⟩; rw [hP, hM])
            | (go_at_call 47; refine (wbyte_any _ _ _ _ _ hB1 (by (rw [Lib.byteCells_length]; omega)) (by omega)).mono ?_; rintro e w3 ⟨rfl, hB3, hb3⟩; have hs3 := hb3.size))
          exact ⟨⟨bl_mark (bl_any hbw hb1) hb3, k + 1, by omega, rfl, by (rw [esc_keep p wh s k hlt hL hM]; exact .inr hB3)⟩, by (simp only [intOf]; omega)⟩
        · go_wp2_with (first
            | (go_at_call 15; refine (legal_any _ _ _ _ _ (by omega)).mono ?_; rintro e w1 ⟨rfl, hb1⟩; rw [hL]; have hB1 := bld_bel (by first | exact hB | exact bld_drewN hB _) hb1; have hs1 := hb1.size; have hw1 := hbw.size)
            | (go_at_call 46; refine (Try.strings_HasPrefix _ _ _).mono ?_; rintro e w2 ⟨rfl, rfl⟩; rw [hP, hM])
            | (go_at_call 48; refine (wstr_any _ _ _ _ _ hB1 (by (rw [Lib.byteCells_length]; show _ + 2 ≤ _; omega)) (by omega)).mono ?_; rintro e w3 ⟨rfl, hB3, hb3⟩; have hs3 := hb3.size)
            | (go_at_call 47; first
              | (refine (wbyte_any _ _ _ _ _ (.inr hB4) (by (simp [Lib.byteCells_length, Lib.strCells_length]; omega)) (by omega)).mono ?_; rintro e w5 ⟨rfl, hB5, hb5⟩; have hs5 := hb5.size)
              | (go_loud (refine (wbyte_any _ _ _ _ _ (.inr hB3) (by (simp [Lib.byteCells_length, Lib.strCells_length]; omega)) (by omega)).mono ?_); rintro e w4 ⟨rfl, hB4, hb4⟩; have hs4 := hb4.size)))
          exact ⟨⟨bl_mark (bl_mark (bl_mark (bl_any hbw hb1) hb3) hb4) hb5, k + 1, by omega, rfl, by (rw [esc_hex p wh s k hlt (by simp [staysB, hL, hM]) _ _ (hex_at _ (by omega)) (hex_at _ (by omega))]; exact .inr hB5)⟩, by (simp only [intOf]; omega)⟩
    · have hdk : decide ((k : Int) < s.size) = false := decide_eq_false (by omega)
      obtain rfl : k = s.size := by omega
      go_wp2_with (go_at_call 49; refine (Try.Builder_String_any w.heap.size w.heap.size _ _ hB hbw.size).mono ?_; rintro e w2 ⟨rfl, hb2⟩)
      go_ret
      exact ⟨rfl, bl_mark hbw hb2⟩
end Go.Proofs.Ytdhkfbobfjkclaa
