/- The walks of package lossy: Name; of the reference's Lossy. -/
import Derived.Test.YtjdanidnmpigkaaCharset
import Derived.Test.YtjdanidnmpigkaaLossyDef
import Derived.Test.YtjdanidnmpigkaaCore
import Derived.Lib.ConvBytes
import Derived.Laws.IdiomStrings
import Derived.Deep.AppendLies
import Derived.Deep.QuietTactic
import Derived.Deep.DeepCutAuto
namespace Go.Proofs.Ytjdanidnmpigkaa
open Go.RowKit
/-- The byte at j when the first k have been gone through. -/
def mixAt (p wh : Int) (l : List UInt8) (k j : Nat) : UInt8 := if j < k then lossAt p wh l j else l.getD j 0
theorem bytes_frozen (w : World) (e : TypeId) (s : ByteArray) (j : Nat) (hj : j < s.size) : (Lib.bytesWorld w e s).frozen? ⟨w.heap.size, j, none⟩ = false := by
  have h : s.size ≤ (Lib.bytesCells w e s).size := by simp [Lib.bytesCells]
  simp only [World.frozen?, Lib.bytesWorld_at_new]
  simp
  omega
theorem bel_bytes {w0 w : World} (h : Below w0.heap.size w0 w) (e : TypeId) (s : ByteArray) : Below w0.heap.size w0 (Lib.bytesWorld w e s) :=
  h.trans ⟨rfl, rfl, rfl, by rw [Lib.bytesWorld_size]; omega, fun j hj => Lib.bytesWorld_at_old w e s j (by have := h.size; omega)⟩
set_option maxRecDepth 100000 in
set_option maxHeartbeats 1600000 in
theorem name_any (p wh : Int) (s : ByteArray) (w : World) (hs : s.size ≤ 1048576) :
    Calls Try.prog 11 #[.int .i64 p, .int .i64 wh, .string s] w fun e w' => e = .returned (.string ⟨(lossB p wh s.data.toList).toArray⟩) ∧ Below w.heap.size w w' := by
  have hcv : ∀ w : World, (convert 9 41 (.string s)).run Try.prog w = .ok (.slice (some ⟨w.heap.size, 0, none⟩) s.size (grownCap w s.size 0 5)) (Lib.bytesWorld w 5 s) := fun w => Lib.run_convert_string_bytes (u := .string) w _ _ _ s (by kernel_rfl) (by kernel_rfl) (by kernel_rfl)
  go_enter Try.func11, Try.ntmps11
  go_wp2_with fail
  go_loopw [13] (fun i wr => Below w.heap.size w wr ∧ w.heap.size < wr.heap.size ∧ ∃ k : Nat, k ≤ s.size ∧ i = .int .i64 k ∧ (∀ j, j < s.size → wr.cell? ⟨w.heap.size, j, none⟩ = some (.int .u8 (mixAt p wh s.data.toList k j).toNat)) ∧ (∀ j, j < s.size → wr.frozen? ⟨w.heap.size, j, none⟩ = false)) (fun i _ => s.size - (intOf i).toNat)
  case atStart => exact ⟨bel_bytes (Below.refl _ _) _ _, by rw [Lib.bytesWorld_size]; omega, 0, by omega, rfl, fun j hj => by rw [Lib.bytesWorld_cell w _ s j hj]; rfl, fun j hj => bytes_frozen w _ s j hj⟩
  case round =>
    obtain ⟨hbw, hgs, k, hk, rfl, hcell, hfr⟩ := hrel
    by_cases hlt : k < s.size
    · have hdk : decide ((k : Int) < s.size) = true := decide_eq_true (by omega)
      have hk0 : (0 : Int) ≤ k := by omega
      have hk1 : (k : Int) < s.size := by omega
      have hmix : ∀ j, j ≠ k → mixAt p wh s.data.toList (k + 1) j = mixAt p wh s.data.toList k j := by
        intro j hj
        unfold mixAt
        by_cases h : j < k
        · rw [if_pos h, if_pos (by omega)]
        · rw [if_neg h, if_neg (by omega)]
      cases hL : legalB p wh s.data.toList k
      · go_wp2_with (go_at_call 17; refine (legal_any _ _ _ _ _ (by omega)).mono ?_; rintro e w1 ⟨rfl, hb1⟩; rw [hL]; obtain ⟨hc1, hf1⟩ := bcell hb1; have hck := (hc1 w.heap.size k hgs).trans (hcell k hlt); have hfk := (hf1 w.heap.size k hgs).trans (hfr k hlt))
        refine ⟨⟨bl_set (bl_any hbw hb1) (by show w.heap.size ≤ w.heap.size; omega) _, by (have := hb1.size; simp; omega), k + 1, by omega, rfl, fun j hj => ?_, fun j hj => ?_⟩, by (simp only [intOf]; omega)⟩
        · by_cases e : j = k
          · subst e
            rw [World.cell?_setCell_same _ _ _ hck]
            unfold mixAt
            rw [if_pos (by omega), lossAt, if_neg (by rw [hL]; exact Bool.false_ne_true)]; rfl
          · rw [World.cell?_setCell_other _ _ _ _ (by intro h; injection h with _ h2; exact e h2.symm), hmix j e]
            exact (hc1 w.heap.size j hgs).trans (hcell j hj)
        · rw [World.frozen?_setCell]
          exact (hf1 w.heap.size j hgs).trans (hfr j hj)
      · go_wp2_with (go_at_call 17; refine (legal_any _ _ _ _ _ (by omega)).mono ?_; rintro e w1 ⟨rfl, hb1⟩; rw [hL]; obtain ⟨hc1, hf1⟩ := bcell hb1)
        refine ⟨⟨bl_any hbw hb1, by (have := hb1.size; omega), k + 1, by omega, rfl, fun j hj => ?_, fun j hj => (hf1 w.heap.size j hgs).trans (hfr j hj)⟩, by (simp only [intOf]; omega)⟩
        rw [(hc1 w.heap.size j hgs).trans (hcell j hj)]
        by_cases e : j = k
        · subst e
          unfold mixAt
          rw [if_neg (by omega), if_pos (by omega), lossAt, if_pos hL]
        · rw [hmix j e]
    · have hdk : decide ((k : Int) < s.size) = false := decide_eq_false (by omega)
      obtain rfl : k = s.size := by omega
      have hll : (lossB p wh s.data.toList).length = s.size := by rw [lossB_len]; simp
      have hback := run_convert_bytes_back (P := Try.prog) wr 41 9 5 ⟨w.heap.size, 0, none⟩ (grownCap w s.size 0 5) (lossB p wh s.data.toList) (by kernel_rfl) (by kernel_rfl) (by kernel_rfl) (fun j hj => by
        have h4 : (⟨w.heap.size, 0, none⟩ : Addr).add j = ⟨w.heap.size, j, none⟩ := by unfold Addr.add; split <;> simp_all
        rw [h4, hcell j (by omega)]
        have h5 := lossTo_at p wh s.data.toList s.data.toList.length j (by simp; omega)
        rw [List.getD_eq_getElem?_getD, List.getElem?_eq_getElem (by rw [lossTo_len]; simp; omega)] at h5
        unfold mixAt
        rw [if_pos (by omega)]
        exact congrArg (fun x : UInt8 => some (Value.int .u8 (x.toNat : Int))) h5.symm)
      rw [hll] at hback
      go_wp2_with fail
      go_ret
      exact ⟨rfl, hbw⟩
end Go.Proofs.Ytjdanidnmpigkaa
