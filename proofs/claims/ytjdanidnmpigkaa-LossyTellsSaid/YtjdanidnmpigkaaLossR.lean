/- The walk of the reference's Lossy. -/
import Derived.Test.YtjdanidnmpigkaaCharset2
import Derived.Test.YtjdanidnmpigkaaLoss
namespace Go.Proofs.Ytjdanidnmpigkaa
open Go.RowKit
set_option maxRecDepth 100000 in
set_option maxHeartbeats 1600000 in
theorem refLossy_any (p wh : Int) (s : ByteArray) (w : World) (hs : s.size ≤ 1048576) :
    Calls Try.prog 12 #[.int .i64 p, .int .i64 wh, .string s] w fun e w' => e = .returned (.string ⟨(lossB p wh s.data.toList).toArray⟩) ∧ Below w.heap.size w w' := by
  obtain ⟨i0, hi0, hz0, hz1, hz2⟩ := info_parts Try.infoByte
  have hu8 : Try.prog.underlying 41 = some (.slice 5) := by kernel_rfl
  go_enter Try.func12, Try.ntmps12
  go_wp2_with fail
  go_loopw [7, 8] (fun o i wr => Below w.heap.size w wr ∧ ∃ k : Nat, k ≤ s.size ∧ i = .int .i64 k ∧ wr.ownsRow w.heap.size 5 1 o (lossTo p wh s.data.toList k).length (Lib.byteCells (lossTo p wh s.data.toList k))) (fun _ i _ => s.size - (intOf i).toNat)
  case atStart => exact ⟨Below.refl _ _, 0, by omega, rfl, World.ownsRow_nil _ _ _ _⟩
  case round =>
    obtain ⟨hbx, k, hk, rfl, hown⟩ := hrel
    have hwr := hbx.size
    have hlk := lossTo_len p wh s.data.toList k
    by_cases hlt : k < s.size
    · have hdk : decide ((k : Int) < s.size) = true := decide_eq_true (by omega)
      have hk0 : (0 : Int) ≤ k := by omega
      have hk1 : (k : Int) < s.size := by omega
      cases hL : legalB p wh s.data.toList k
      · go_wp2_with (first
          | (go_at_call 18; refine (refLegal_any _ _ _ _ _ (by omega)).mono ?_; rintro e w1 ⟨rfl, rfl⟩; rw [hL])
          | (at_builtin; refine wpList_append_lies _ (by rfl) _ _ _ (by rfl) w.heap.size 5 i0 _ 1 1 hu8 hi0 hz0 hz1 hz2 rfl (by omega) _ (lossTo p wh s.data.toList k).length (Lib.byteCells (lossTo p wh s.data.toList k)) (by rfl) (hown.alloc _) ⟨wr.heap.size, 0, none⟩ 1 1 _ (by rfl) (by rfl) (World.news_of_block (heap_alloc_new wr _)) (by simp [Value.oneCell']) (by omega) (by simp [maxLen]; omega) (by omega) (by simp; omega) (wr.heap.size + 1) (by simp) ?_; intro gg capg w4 hown4 hgrow hat hlt4))
        exact ⟨⟨(bl_alloc hbx _).grown hgrow (by simp; omega) (fun j e => (hown.lt _ e).1), k + 1, by omega, rfl, by (rw [lossTo_len, lossTo, byteCells_app, lossAt, if_neg (by rw [hL]; exact Bool.false_ne_true)]; rw [hlk] at hown4; exact hown4)⟩, by (simp only [intOf]; omega)⟩
      · go_wp2_with (first
          | (go_at_call 18; refine (refLegal_any _ _ _ _ _ (by omega)).mono ?_; rintro e w1 ⟨rfl, rfl⟩; rw [hL])
          | (at_builtin; refine wpList_append_lies _ (by rfl) _ _ _ (by rfl) w.heap.size 5 i0 _ 1 1 hu8 hi0 hz0 hz1 hz2 rfl (by omega) _ (lossTo p wh s.data.toList k).length (Lib.byteCells (lossTo p wh s.data.toList k)) (by rfl) (hown.alloc _) ⟨wr.heap.size, 0, none⟩ 1 1 _ (by rfl) (by rfl) (World.news_of_block (heap_alloc_new wr _)) (by simp [Value.oneCell']) (by omega) (by simp [maxLen]; omega) (by omega) (by simp; omega) (wr.heap.size + 1) (by simp) ?_; intro gg capg w4 hown4 hgrow hat hlt4))
        exact ⟨⟨(bl_alloc hbx _).grown hgrow (by simp; omega) (fun j e => (hown.lt _ e).1), k + 1, by omega, rfl, by (rw [lossTo_len, lossTo, byteCells_app, lossAt, if_pos hL, getD_at s k hlt]; rw [hlk] at hown4; exact hown4)⟩, by (simp only [intOf]; omega)⟩
    · have hdk : decide ((k : Int) < s.size) = false := decide_eq_false (by omega)
      obtain rfl : k = s.size := by omega
      have hcv := conv_own hown
      go_wp2_with fail
      go_ret
      exact ⟨ret_str (by (unfold lossB; rw [show s.data.toList.length = s.size by simp])), hbx⟩
end Go.Proofs.Ytjdanidnmpigkaa
