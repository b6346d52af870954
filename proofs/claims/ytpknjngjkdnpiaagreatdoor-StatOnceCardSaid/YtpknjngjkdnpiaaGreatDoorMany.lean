/- The walk of polyglothelp.Many. -/
import Derived.Test.YtpknjngjkdnpiaaGreatDoorMgA
import Derived.Laws.MakeOwn
namespace Go.Proofs.YtpknjngjkdnpiaaGreatDoor
set_option linter.unusedVariables false
set_option linter.unusedSimpArgs false
open Go.RowKit
def manyC (c : UInt8) (n i : Nat) : Array Value := (List.replicate i (Value.int .u8 (c.toNat : Int)) ++ List.replicate (n - i) (Value.int .u8 0)).toArray
theorem manyC_set (c : UInt8) (n i : Nat) (h : i < n) : (manyC c n i).setIfInBounds i (.int .u8 (c.toNat : Int)) = manyC c n (i + 1) := by
  unfold manyC
  rw [List.setIfInBounds_toArray]
  congr 1
  refine List.ext_getElem? fun j => ?_
  simp only [List.getElem?_set, List.getElem?_append, List.getElem?_replicate, List.length_replicate, List.length_append]
  by_cases h1 : i = j
  · subst h1; simp; omega
  · simp only [h1, if_false]
    by_cases h2 : j < i
    · simp [h2, show j < i + 1 by omega]
    · simp only [h2, if_false, show ¬ j < i + 1 by omega]
      by_cases h3 : j < n
      · simp [show j - i < n - i by omega, show j - (i + 1) < n - (i + 1) by omega]
      · simp [show ¬ j - i < n - i by omega, show ¬ j - (i + 1) < n - (i + 1) by omega]
theorem manyC_made (c : UInt8) (n : Nat) : madeCells #[Value.int .u8 0] n = manyC c n 0 := by
  unfold madeCells manyC
  apply Array.ext'
  simp only [List.replicate_zero, List.nil_append, Nat.sub_zero, Array.toList_map, Array.toList_range]
  refine List.ext_getElem (by simp) fun i h1 h2 => ?_
  simp [Nat.mod_one]
theorem manyC_size (c : UInt8) (n i : Nat) (h : i ≤ n) : (manyC c n i).size = n := by unfold manyC; simp; omega
set_option maxRecDepth 100000 in
set_option maxHeartbeats 1600000 in
theorem many_any (c : UInt8) (n : Nat) (hn : n ≤ 1000) (w : World) :
    Calls Tryz.prog 19 #[.int .u8 (c.toNat : Int), .int .i64 (n : Int)] w fun e w' => (∃ v, e = .returned v ∧ w'.ownsRow w.heap.size 5 1 v n (Lib.byteCells (List.replicate n c))) ∧ Below w.heap.size w w' := by
  obtain ⟨i0, hi0, hz0, hz1, hz2⟩ := info_parts Tryz.infoByte
  have hmk : ∀ w : World, (Instr.makeSlice 51 (.int .i64 (n : Int)) (.int .i64 (n : Int))).run Tryz.prog w = .ok (.slice (some ⟨w.heap.size, 0, none⟩) n n) (w.alloc (.cells (manyC c n 0) 5)) := fun w => by
    have h := run_make (P := Tryz.prog) w 51 5 i0 (.int .u8 0) (by kernel_rfl) hi0 hz0 .i64 .i64 (n : Int) (n : Int) (by omega) (Int.le_refl _) (by rw [hz2]; omega) (by omega)
    rw [hz1, Int.toNat_natCast, Nat.mul_one] at h
    have e : (Value.int .u8 0).cells = #[.int .u8 0] := rfl
    rw [e, manyC_made c n] at h
    exact h
  have hB0 := Blk.new w 5 (manyC c n 0)
  go_enter Tryz.func19, Tryz.ntmps19
  go_wp2_with fail
  go_loopw [6] (fun i wr => ∃ k : Nat, k ≤ n ∧ i = .int .i64 k ∧ Blk wr w.heap.size 5 (manyC c n k) ∧ Below w.heap.size w wr) (fun i _ => n - (intOf i).toNat)
  case atStart => exact ⟨0, by omega, rfl, hB0, (Below.refl _ _).alloc (Nat.le_refl _) _⟩
  case round =>
    obtain ⟨k, hk, rfl, hb, hbl⟩ := hrel
    clear hB0
    by_cases hlt : k < n
    · have hd : decide ((k : Int) < (n : Int)) = true := decide_eq_true (by omega)
      have hdn : decide (k < n) = true := decide_eq_true hlt
      have h0 : (0 : Int) ≤ k := by omega
      have h1 : (k : Int) < n := by omega
      have c0 : wr.cell? ⟨w.heap.size, k, none⟩ = some ((manyC c n k)[k]'(by rw [manyC_size c n k hk]; exact hlt)) := (Blk.cell hb k).trans (Array.getElem?_eq_getElem _)
      have f0 := Blk.frozen hb k
      have hb2 := Blk.set_ hb k (.int .u8 (c.toNat : Int))
      rw [manyC_set c n k hlt] at hb2
      go_wp2_with fail
      exact ⟨⟨k + 1, by omega, rfl, hb2, bl_set hbl (Nat.le_refl _) _⟩, by (simp only [intOf]; omega)⟩
    · have hd : decide ((k : Int) < (n : Int)) = false := decide_eq_false (by omega)
      have hdn : decide (k < n) = false := decide_eq_false hlt
      obtain rfl : k = n := by omega
      go_wp2_with fail
      go_ret
      refine ⟨⟨_, rfl, by simp [Lib.byteCells], .inr ⟨w.heap.size, k, manyC c k k, rfl, Nat.le_refl _, hb, Nat.le_refl _, by simp [maxLen]; omega, by rw [manyC_size c k k (Nat.le_refl _)]; omega, ?_⟩⟩, hbl⟩
      simp [manyC, Lib.byteCells]
end Go.Proofs.YtpknjngjkdnpiaaGreatDoor
