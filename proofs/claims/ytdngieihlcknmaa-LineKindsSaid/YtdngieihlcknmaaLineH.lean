/- The walks of package lineword: a text with a backslash ahead of some signs. -/
import Derived.Test.YtdngieihlcknmaaScanE
namespace Go.Proofs.Ytdngieihlcknmaa
set_option linter.unusedVariables false
set_option linter.unusedSimpArgs false
open Go.RowKit
def isMk (m : List UInt8) (c : UInt8) : Bool := m.any fun d => (c.toNat : Int) == d.toNat
/-- A backslash ahead of each of some signs. -/
def markL (m v : List UInt8) : List UInt8 := v.flatMap fun c => if isMk m c then [92, c] else [c]
theorem markL_len (m v : List UInt8) : (markL m v).length ≤ 2 * v.length := by
  induction v with
  | nil => simp [markL]
  | cons c v ih =>
    unfold markL at ih ⊢
    rw [List.flatMap_cons, List.length_append, List.length_cons]
    split <;> (simp only [List.length_cons, List.length_nil]; omega)
theorem markL_snoc (m v : List UInt8) (c : UInt8) : markL m (v ++ [c]) = markL m v ++ if isMk m c then [92, c] else [c] := by
  unfold markL
  rw [List.flatMap_append, List.flatMap_cons, List.flatMap_nil, List.append_nil]
theorem take_snoc (l : List UInt8) (k : Nat) (h : k < l.length) : l.take (k + 1) = l.take k ++ [l.getD k 0] := by
  rw [List.take_succ_eq_append_getElem h, List.getD_eq_getElem?_getD, List.getElem?_eq_getElem h]; rfl
set_option maxRecDepth 100000 in
set_option maxHeartbeats 1600000 in
theorem marked_any (s m : ByteArray) (w : World) (hs : s.size ≤ 1048576) :
    Calls Try.prog 26 #[.string s, .string m] w fun e w' => e = .returned (.string (mkS (markL m.data.toList s.data.toList))) ∧ Below w.heap.size w w' := by
  have hL : s.data.toList.length = s.size := by simp
  go_enter Try.func26, Try.ntmps26
  go_wp2_with fail
  go_loopw [9] (fun i wr => Below w.heap.size w wr ∧ ∃ k : Nat, k ≤ s.size ∧ i = .int .i64 k ∧ Lib.IsBuilder 87 5 w.heap.size w.heap.size (Lib.byteCells (markL m.data.toList (s.data.toList.take k))) wr) (fun i _ => s.size - (intOf i).toNat)
  case atStart => exact ⟨bl_alloc (Below.refl _ _) _, 0, by omega, rfl, bld_new⟩
  case round =>
    obtain ⟨hbw, k, hk, rfl, hB⟩ := hrel
    by_cases hlt : k < s.size
    · have hdk : decide ((k : Int) < s.size) = true := decide_eq_true (by omega)
      have hx := markL_len m.data.toList (s.data.toList.take k)
      rw [List.length_take, hL] at hx
      have hst : markL m.data.toList (s.data.toList.take (k + 1)) = _ := (congrArg _ (take_snoc s.data.toList k (by omega))).trans (markL_snoc m.data.toList (s.data.toList.take k) (s.data.toList.getD k 0))
      have hc0 : s.data.toList.getD k 0 = s[k]'hlt := by
        rw [List.getD_eq_getElem?_getD, List.getElem?_eq_getElem (by omega)]; rfl
      rw [hc0] at hst
      have hI := idx_any m.data.toList ((s[k]'hlt).toNat : Int) (by omega) (by have := (s[k]'hlt).toNat_lt; omega)
      have h255 := (s[k]'hlt).toNat_lt
      have kI := fun W => Try.strings_IndexByte m ((s[k]'hlt).toNat : Int) W
      have hk1 : (k : Int) < s.size := by omega
      have hk0 : (0 : Int) ≤ k := by omega
      generalize hD : Lib.indexByte m.data.toList ((s[k]'hlt).toNat : Int).toNat.toUInt8 = D at hI kI
      change isMk m.data.toList (s[k]'hlt) = _ at hI
      generalize markL m.data.toList (s.data.toList.take k) = acc at hst hB hx
      clear hc0 hD
      cases hq : isMk m.data.toList (s[k]'hlt)
      · rw [hq] at hI hst
        have hg : decide (0 ≤ D) = false := hI.symm
        have hs' : Lib.byteCells (markL m.data.toList (s.data.toList.take (k + 1))) = Lib.byteCells acc ++ [.int .u8 ((s[k]'hlt).toNat : Int)] := by rw [hst, byteCells_app]; rfl
        clear hI hq hst
        go_wp2_with (first
          | (go_at_call 43; refine (kI _).mono ?_; rintro e w1 ⟨rfl, rfl⟩)
          | (go_at_call 44; refine (wbyte_any _ _ _ _ _ hB (by (rw [Lib.byteCells_length]; omega)) (by have := hbw.size; omega)).mono ?_; rintro e w3 ⟨rfl, hB3, hb3⟩; have hs3 := hb3.size))
        exact ⟨⟨bl_mark hbw hb3, k + 1, by omega, rfl, by (rw [hs']; exact .inr hB3)⟩, by (simp only [intOf]; omega)⟩
      · rw [hq] at hI hst
        have hg : decide (0 ≤ D) = true := hI.symm
        have hs' : Lib.byteCells (markL m.data.toList (s.data.toList.take (k + 1))) = Lib.byteCells acc ++ [.int .u8 92] ++ [.int .u8 ((s[k]'hlt).toNat : Int)] := by rw [hst, byteCells_app]; simp [Lib.byteCells]
        clear hI hq hst
        go_wp2_with (first
          | (go_at_call 43; refine (kI _).mono ?_; rintro e w1 ⟨rfl, rfl⟩)
          | (go_at_call 44; first
            | (refine (wbyte_any _ _ _ _ _ (.inr hB3) (by (simp [Lib.byteCells_length]; omega)) (by have := hbw.size; omega)).mono ?_; rintro e w4 ⟨rfl, hB4, hb4⟩)
            | (go_loud (refine (wbyte_any _ _ _ _ _ hB (by (rw [Lib.byteCells_length]; omega)) (by have := hbw.size; omega)).mono ?_); rintro e w3 ⟨rfl, hB3, hb3⟩; have hs3 := hb3.size)))
        exact ⟨⟨bl_mark (bl_mark hbw hb3) hb4, k + 1, by omega, rfl, by (rw [hs']; exact .inr hB4)⟩, by (simp only [intOf]; omega)⟩
    · have hdk : decide ((k : Int) < s.size) = false := decide_eq_false (by omega)
      obtain rfl : k = s.size := by omega
      rw [List.take_of_length_le (by omega)] at hB
      go_wp2_with (go_at_call 45; refine (Try.Builder_String_any w.heap.size w.heap.size _ _ hB hbw.size).mono ?_; rintro e w2 ⟨rfl, hb2⟩)
      go_ret
      exact ⟨rfl, bl_mark hbw hb2⟩
set_option maxHeartbeats 1600000 in
theorem measure_any (s : ByteArray) (w : World) (hs : s.size ≤ 1048576) :
    Calls Try.prog 13 #[.string s] w fun e w' => e = .returned (.string (mkS (markL [44, 32] s.data.toList))) ∧ Below w.heap.size w w' := by
  have k := marked_any s ⟨#[44, 32]⟩ w hs
  change Calls Try.prog 26 _ _ (fun e w' => e = .returned (.string (mkS (markL [44, 32] s.data.toList))) ∧ _) at k
  generalize mkS (markL [44, 32] s.data.toList) = T at k ⊢
  go_enter Try.func13, Try.ntmps13
  go_wp2_with (go_at_call 26; refine k.mono ?_; rintro e w2 ⟨rfl, hb2⟩)
  go_ret
  exact ⟨rfl, hb2⟩
set_option maxHeartbeats 1600000 in
theorem key_any (s : ByteArray) (w : World) (hs : s.size ≤ 1048576) :
    Calls Try.prog 15 #[.string s] w fun e w' => e = .returned (.string (mkS (markL [44, 32, 61] s.data.toList))) ∧ Below w.heap.size w w' := by
  have k := marked_any s ⟨#[44, 32, 61]⟩ w hs
  change Calls Try.prog 26 _ _ (fun e w' => e = .returned (.string (mkS (markL [44, 32, 61] s.data.toList))) ∧ _) at k
  generalize mkS (markL [44, 32, 61] s.data.toList) = T at k ⊢
  go_enter Try.func15, Try.ntmps15
  go_wp2_with (go_at_call 26; refine k.mono ?_; rintro e w2 ⟨rfl, hb2⟩)
  go_ret
  exact ⟨rfl, hb2⟩
set_option maxHeartbeats 1600000 in
theorem quote_any (s : ByteArray) (w : World) (hs : s.size ≤ 1048576) :
    Calls Try.prog 16 #[.string s] w fun e w' => e = .returned (.string (mkS (markL [34, 92] s.data.toList))) ∧ Below w.heap.size w w' := by
  have k := marked_any s ⟨#[34, 92]⟩ w hs
  change Calls Try.prog 26 _ _ (fun e w' => e = .returned (.string (mkS (markL [34, 92] s.data.toList))) ∧ _) at k
  generalize mkS (markL [34, 92] s.data.toList) = T at k ⊢
  go_enter Try.func16, Try.ntmps16
  go_wp2_with (go_at_call 26; refine k.mono ?_; rintro e w2 ⟨rfl, hb2⟩)
  go_ret
  exact ⟨rfl, hb2⟩
end Go.Proofs.Ytdngieihlcknmaa
