/- The walk of lossy.All. -/
import Derived.Test.YtjdanidnmpigkaaLoss
import Derived.Deep.AppendLies
namespace Go.Proofs.Ytjdanidnmpigkaa
open Go.RowKit
def lossS (p wh : Int) (s : ByteArray) : ByteArray := ⟨(lossB p wh s.data.toList).toArray⟩
set_option maxRecDepth 100000 in
set_option maxHeartbeats 1600000 in
theorem lall_any (p wh : Int) (A : Option Addr) (n cap : Nat) (l : List ByteArray) (w : World) (hl : IsRows strCell 1 w w.heap.size A n l) (hsz : ∀ s ∈ l, s.size ≤ 1048576) (hn : n ≤ 1048576) :
    Calls Try.prog 10 #[.int .i64 p, .int .i64 wh, .slice A n cap] w fun e w' => (∃ v, e = .returned v ∧ w'.ownsRow w.heap.size 9 1 v n ((l.map (lossS p wh)).flatMap strCell)) ∧ Below w.heap.size w w' := by
  obtain ⟨i0, hi0, hz0, hz1, hz2⟩ := info_parts Try.infoString
  go_enter Try.func10, Try.ntmps10
  go_wp2_with fail
  go_loopw [7, 12] (fun o i wr => Below w.heap.size w wr ∧ ∃ k : Nat, k ≤ n ∧ i = .int .i64 k ∧ wr.ownsRow w.heap.size 9 1 o k (((l.take k).map (lossS p wh)).flatMap strCell)) (fun _ i _ => n - (intOf i).toNat)
  case atStart => exact ⟨Below.refl _ _, 0, by omega, rfl, World.ownsRow_nil _ _ _ _⟩
  case round =>
    obtain ⟨hbw, k, hk, rfl, hown⟩ := hrel
    by_cases hlt : k < n
    · have hdk : decide ((k : Int) < n) = true := decide_eq_true (by omega)
      have hll := hl.1
      obtain ⟨x, hx⟩ : ∃ x, l[k]? = some x := ⟨_, List.getElem?_eq_getElem (by omega)⟩
      have hxs := hsz x (List.mem_of_getElem? hx)
      have htk : l.take (k + 1) = l.take k ++ [x] := by
        rw [List.take_add_one, hx]; rfl
      obtain ⟨b, off, rfl, hgb, hrc⟩ := hl.2 (by omega)
      have e0 : wr.cell? ⟨b, off + k, none⟩ = some (.string x) := (hbw.cell (p := ⟨b, off + k, none⟩) hgb).trans (by have := hrc k x 0 _ hx rfl; simpa using this)
      have hwr := hbw.size
      have hk0 : (0 : Int) ≤ k := by omega
      have hk1 : (k : Int) < n := by omega
      have hu : Try.prog.underlying 22 = some (.slice 9) := by kernel_rfl
      go_wp2_with (first
        | (go_at_call 11; refine (name_any _ _ _ _ hxs).mono ?_; rintro e w2 ⟨rfl, hb2⟩; have hs2 := hb2.size)
        | (at_builtin; (refine wpList_append_lies _ (by rfl) _ _ _ (by rfl) w.heap.size 9 i0 _ 1 16 hu hi0 hz0 hz1 hz2 rfl (by omega) _ k (((l.take k).map (lossS p wh)).flatMap strCell) (by rfl) ((own_bel hown hb2).alloc _) ⟨w2.heap.size, 0, none⟩ 1 1 _ (by rfl) (by rfl) (World.news_of_block (heap_alloc_new w2 _)) (by simp [Value.oneCell']) (by omega) (by simp [maxLen]; omega) (by omega) (by simp; omega) (w2.heap.size + 1) (by simp) ?_); intro gg capg w4 hown4 hgrow hat hlt4))
      exact ⟨⟨(bl_alloc (bl_any hbw hb2) _).grown hgrow (by simp; omega) (fun j e => (hown.lt _ e).1), k + 1, by omega, rfl, by (rw [htk, List.map_append, List.flatMap_append]; exact hown4)⟩, by (simp only [intOf]; omega)⟩
    · have hdk : decide ((k : Int) < n) = false := decide_eq_false (by omega)
      obtain rfl : k = n := by omega
      go_wp2_with fail
      go_ret
      exact ⟨⟨_, rfl, by (rw [List.take_of_length_le (by have := hl.1; omega)] at hown; exact hown)⟩, hbw⟩
end Go.Proofs.Ytjdanidnmpigkaa
