/- The walk of the reference's Without. -/
import Derived.Test.YtlolbpefeagclaaLabB
namespace Go.Proofs.Ytlolbpefeagclaa
open Go.RowKit
def inT (names : List ByteArray) (x : ByteArray) : Bool := names.any fun m => x.toList == m.toList
theorem inT_eq (names : List ByteArray) (x : ByteArray) : inT names x = inN names x := by
  unfold inT inN
  congr 1
  funext m
  rw [ByteArray.toList_eq, ByteArray.toList_eq]
  exact bcl (by rw [beq_iff_eq, beq_iff_eq]; exact eq_comm)
theorem inT_succ {names : List ByteArray} {j : Nat} {y x : ByteArray} (h : names[j]? = some y) : inT (names.take (j + 1)) x = (inT (names.take j) x || x.toList == y.toList) := by
  rw [List.take_add_one, h, inT, inT, List.any_append]
  simp
set_option maxRecDepth 100000 in
set_option maxHeartbeats 1600000 in
theorem refWithout_any (A : Option Addr) (n cap : Nat) (L : List Lab) (A2 : Option Addr) (n2 cap2 : Nat) (names : List ByteArray) (w : World) (hl : IsRows labCell 2 w w.heap.size A n L) (hn : n ≤ 1048576) (hm : IsRows strCell 1 w w.heap.size A2 n2 names) (hn2 : n2 ≤ 1048576) :
    Calls Try.prog 15 #[.slice A n cap, .slice A2 n2 cap2] w fun e w' => (∃ v, e = .returned v ∧ w'.ownsRow w.heap.size 38 2 v (outL L names).length ((outL L names).flatMap labCell)) ∧ Below w.heap.size w w' := by
  have hll := hl.1
  have hmm := hm.1
  obtain ⟨i0, hi0, hz0, hz1, hz2⟩ := info_parts Try.infoLabel
  have hu : Try.prog.underlying 22 = some (.slice 38) := by kernel_rfl
  go_enter Try.func15, Try.ntmps15
  go_wp2_with fail
  go_loopw [5, 6] (fun o i wr => Below w.heap.size w wr ∧ ∃ k : Nat, k ≤ n ∧ i = .int .i64 k ∧ wr.ownsRow w.heap.size 38 2 o (outL (L.take k) names).length ((outL (L.take k) names).flatMap labCell)) (fun _ i _ => n - (intOf i).toNat)
  case atStart => exact ⟨Below.refl _ _, 0, by omega, rfl, World.ownsRow_nil _ _ _ _⟩
  case round =>
    obtain ⟨wo, rfl⟩ : ∃ wo, wo = wr := ⟨_, rfl⟩
    obtain ⟨hbw, k, hk, rfl, hown⟩ := hrel
    have hwo := hbw.size
    by_cases hlt : k < n
    · have hdk : decide ((k : Int) < n) = true := decide_eq_true (by omega)
      have hk0 : (0 : Int) ≤ k := by omega
      have hk1 : (k : Int) < n := by omega
      obtain ⟨b, off, x, y, rfl, hgb, hx, _, _⟩ := lab_at (hl.below hbw) hlt
      have hol := out_len L k names
      go_wp2_with fail
      go_loopw [7, 8] (fun a i wr => Below w.heap.size w wr ∧ ∃ (a0 : Bool) (j : Nat), j ≤ n2 ∧ a = .bool a0 ∧ i = .int .i64 j ∧ Hid (inT (names.take j) x = a0) ∧ Hid (wr.ownsRow w.heap.size 38 2 u5 (outL (L.take k) names).length ((outL (L.take k) names).flatMap labCell))) (fun _ i _ => n2 - (intOf i).toNat)
      case atStart => exact ⟨hbw, false, 0, by omega, rfl, rfl, Lib.hid rfl, Lib.hid hown⟩
      case round =>
        obtain ⟨wy, rfl⟩ : ∃ wy, wy = wr := ⟨_, rfl⟩
        obtain ⟨hbz, a0, j, hj, rfl, rfl, HA, HO⟩ := hrel
        have hwy := hbz.size
        obtain ⟨b', off', x', y', hAA, _, hx', e0, e1⟩ := lab_at (hl.below hbz) hlt
        rw [hx] at hx'
        cases hx'
        cases hAA
        by_cases hltj : j < n2
        · have hdj : decide ((j : Int) < n2) = true := decide_eq_true (by omega)
          have hj0 : (0 : Int) ≤ j := by omega
          have hj1 : (j : Int) < n2 := by omega
          obtain ⟨b2, off2, z, rfl, hgb2, hz, e2⟩ := str_at (hm.below hbz) hltj
          have HS := Lib.hid (inT_succ (x := x) hz)
          cases a0
          · obtain ⟨q, hq⟩ : ∃ q, (x.toList == z.toList) = q := ⟨_, rfl⟩
            have HF : Hid (inT (names.take (j + 1)) x = q) := Lib.hid (by rw [HS.out, HA.out, hq]; rfl)
            clear HS
            go_wp2_with fail
            go_quiet (fail)
            go_wp2_with fail
            exact ⟨⟨bl_drewN hbz _, _, j + 1, by omega, rfl, rfl, HF, Lib.hid HO.out⟩, by (simp only [intOf]; omega)⟩
          · have HF : Hid (inT (names.take (j + 1)) x = true) := Lib.hid (by rw [HS.out, HA.out]; rfl)
            clear HS
            go_wp2_with fail
            go_quiet (fail)
            go_wp2_with fail
            exact ⟨⟨bl_drewN hbz _, _, j + 1, by omega, rfl, rfl, HF, Lib.hid HO.out⟩, by (simp only [intOf]; omega)⟩
        · have hdj : decide ((j : Int) < n2) = false := decide_eq_false (by omega)
          obtain rfl : j = n2 := by omega
          have hown := HO.out
          have hq : inN names x = a0 := by (rw [← inT_eq]; have := HA.out; rw [List.take_of_length_le (by omega)] at this; exact this)
          clear HA HO
          cases a0
          · have hoy := out_yes hx hq
            clear hq
            generalize (outL (L.take k) names) = O at *
            go_wp2_with (at_builtin; refine wpList_append_lies _ (by rfl) _ _ _ (by rfl) w.heap.size 38 i0 _ 2 32 hu hi0 hz0 hz1 hz2 rfl (by omega) _ O.length (O.flatMap labCell) (by rfl) (hown.alloc _) ⟨wy.heap.size, 0, none⟩ 1 1 [.string x, .string y] (by rfl) (by rfl) (World.news_of_block (heap_alloc_new wy _)) (by simp [Value.oneCell']) (by omega) (by simp [maxLen]; omega) (by omega) (by simp; omega) (wy.heap.size + 1) (by simp) ?_; intro gg capg w4 hown4 hgrow hat hlt4)
            exact ⟨⟨(bl_alloc hbz _).grown hgrow (by simp; omega) (fun j e => (hown.lt _ e).1), k + 1, by omega, rfl, by (rw [hoy, List.length_append, List.flatMap_append]; exact hown4)⟩, by (simp only [intOf]; omega)⟩
          · have hon := out_no hx hq
            clear hq
            go_wp2_with fail
            exact ⟨⟨hbz, k + 1, by omega, rfl, by (rw [hon]; exact hown)⟩, by (simp only [intOf]; omega)⟩
    · have hdk : decide ((k : Int) < n) = false := decide_eq_false (by omega)
      obtain rfl : k = n := by omega
      rw [List.take_of_length_le (by omega)] at hown
      go_wp2_with fail
      go_ret
      exact ⟨⟨_, rfl, hown⟩, hbw⟩
end Go.Proofs.Ytlolbpefeagclaa
