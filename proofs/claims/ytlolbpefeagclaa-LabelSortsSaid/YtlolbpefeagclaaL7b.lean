/- The walk of LabelTells. -/
import Derived.Test.YtlolbpefeagclaaL7a
namespace Go.Proofs.Ytlolbpefeagclaa
open Go.RowKit
theorem IsRows.step {α : Type} {f : α → List Value} {size : Nat} {w w' : World} {A : Option Addr} {n : Nat} {xs : List α} (h : IsRows f size w w.heap.size A n xs) (hb : Below w.heap.size w w') : IsRows f size w' w'.heap.size A n xs := (h.below hb).more hb.size
theorem sortL_perm {L s : List Lab} (h : sortL L = some s) : s.Perm L := by
  unfold sortL at h
  split at h
  · injection h with h; rw [← h]; exact List.mergeSort_perm _ _
  · cases h
theorem sortL_mem {L : List Lab} {x : Lab} (h : x ∈ (sortL L).getD []) : x ∈ L := by
  cases hs : sortL L with
  | none => rw [hs] at h; simp at h
  | some s => rw [hs] at h; exact (sortL_perm hs).mem_iff.1 h
theorem same_true (A : Option Addr) (n cap : Nat) (L : List Lab) (A2 : Option Addr) (n2 cap2 : Nat) (w : World) (hl : IsRows labCell 2 w w.heap.size A n L) (hm : IsRows labCell 2 w w.heap.size A2 n2 L) (hn : n ≤ 1048576) :
    Calls Try.prog 13 #[.slice A n cap, .slice A2 n2 cap2] w fun e w' => e = .returned (.bool true) ∧ Below w.heap.size w w' := by
  have h2 : n2 = n := hm.1.symm.trans hl.1
  have h := refSame_any A n cap L A2 n2 cap2 L w hl (by omega) hm (by omega)
  rw [(sameB_iff L L).2 rfl] at h
  exact h
set_option maxRecDepth 100000 in
set_option maxHeartbeats 3200000 in
theorem tells7_any (A : Option Addr) (n cap : Nat) (L : List Lab) (A2 : Option Addr) (n2 cap2 : Nat) (M : List Lab) (s : ByteArray) (A3 : Option Addr) (n3 cap3 : Nat) (N : List ByteArray) (w : World) (hl : IsRows labCell 2 w w.heap.size A n L) (hn : n ≤ 9223372036854775807) (hm : IsRows labCell 2 w w.heap.size A2 n2 M) (hn2 : n2 ≤ 9223372036854775807) (ho : IsRows strCell 1 w w.heap.size A3 n3 N) :
    Calls Try.prog 3 #[.slice A n cap, .slice A2 n2 cap2, .string s, .slice A3 n3 cap3] w fun e w' => e = .returned (.bool true) ∧ Below w.heap.size w w' := by
  cases hsa : shortB L
  · go_enter Try.func3, Try.ntmps3
    go_wp2_with (first
      | (go_at_call 7; refine (known7_any _).mono ?_; rintro e w1 ⟨rfl, hb1⟩)
      | (go_at_call 8; refine (short_any A n cap L _ (hl.step hb1) hn).mono ?_; rintro e w2 ⟨rfl, rfl⟩; rw [hsa]))
    go_ret
    exact ⟨rfl, hb1⟩
  cases hsb : shortB M
  · go_enter Try.func3, Try.ntmps3
    go_wp2_with (first
      | (go_at_call 7; refine (known7_any _).mono ?_; rintro e w1 ⟨rfl, hb1⟩)
      | (go_at_call 8; with_reducible refine (short_any A n cap L _ (hl.step hb1) hn).mono ?_; rintro e w2 ⟨rfl, rfl⟩; rw [hsa])
      | (go_at_call 8; with_reducible refine (short_any A2 n2 cap2 M _ (hm.step hb1) hn2).mono ?_; rintro e w2 ⟨rfl, rfl⟩; rw [hsb]))
    go_ret
    exact ⟨rfl, hb1⟩
  by_cases h10 : 10 < n3
  · have hd10 : decide ((10 : Int) < n3) = true := decide_eq_true (by omega)
    go_enter Try.func3, Try.ntmps3
    go_wp2_with (first
      | (go_at_call 7; refine (known7_any _).mono ?_; rintro e w1 ⟨rfl, hb1⟩)
      | (go_at_call 8; with_reducible refine (short_any A n cap L _ (hl.step hb1) hn).mono ?_; rintro e w2 ⟨rfl, rfl⟩; rw [hsa])
      | (go_at_call 8; with_reducible refine (short_any A2 n2 cap2 M _ (hm.step hb1) hn2).mono ?_; rintro e w2 ⟨rfl, rfl⟩; rw [hsb]))
    go_ret
    exact ⟨rfl, hb1⟩
  have hd10 : decide ((10 : Int) < n3) = false := decide_eq_false (by omega)
  by_cases h200 : 200 < s.size
  · have hd200 : decide ((200 : Int) < s.size) = true := decide_eq_true (by omega)
    go_enter Try.func3, Try.ntmps3
    go_wp2_with (first
      | (go_at_call 7; refine (known7_any _).mono ?_; rintro e w1 ⟨rfl, hb1⟩)
      | (go_at_call 8; with_reducible refine (short_any A n cap L _ (hl.step hb1) hn).mono ?_; rintro e w2 ⟨rfl, rfl⟩; rw [hsa])
      | (go_at_call 8; with_reducible refine (short_any A2 n2 cap2 M _ (hm.step hb1) hn2).mono ?_; rintro e w2 ⟨rfl, rfl⟩; rw [hsb]))
    go_ret
    exact ⟨rfl, hb1⟩
  have hd200 : decide ((200 : Int) < s.size) = false := decide_eq_false (by omega)
  obtain ⟨hsza, hna⟩ := shortB_all hsa
  obtain ⟨_, hnb⟩ := shortB_all hsb
  have hll := hl.1
  have hml := hm.1
  have hn20 : n ≤ 20 := by omega
  have hn21 : n2 ≤ 20 := by omega
  have hszl : ∀ x ∈ L, x.1.size ≤ 1048576 ∧ x.2.size ≤ 1048576 := fun x hx => ⟨Nat.le_trans (hsza x hx).1 (by decide), Nat.le_trans (hsza x hx).2 (by decide)⟩
  have hszs : ∀ x ∈ (sortL L).getD [], x.1.size ≤ 1048576 ∧ x.2.size ≤ 1048576 := fun x hx => hszl x (sortL_mem hx)
  have hss : s.size ≤ 4611686018427387904 := by omega
  have k1 := fun W h => sort_any A n cap L W h (by omega)
  have k2 := fun W h => refSort_any A n cap L W h (by omega)
  unfold SortE at k1 k2
  have k3 := fun W h => get_any A n cap L s W h (by omega)
  have k4 := fun W h => refGet_any A n cap L s W h (by omega)
  have k5 := fun W h g => without_any A n cap L A3 n3 cap3 N W h (by omega) g (by omega)
  have k6 := fun W h g => refWithout_any A n cap L A3 n3 cap3 N W h (by omega) g (by omega)
  have k7 := fun W h g => labCompare_any A n cap L A2 n2 cap2 M W h (by omega) g (by omega)
  have k8 := fun W h g => refCompare_any A n cap L A2 n2 cap2 M W h (by omega) g (by omega)
  have k9 := fun W h => good_any A n cap L W h (by omega) hszl
  have k10 := fun W h => refGood_any A n cap L W h (by omega) hszl
  have k11 := fun A' n' cap' W h hh => good_any A' n' cap' _ W h hh hszs
  have k12 := fun A' n' cap' W h hh => refGood_any A' n' cap' _ W h hh hszs
  have k13 := fun W => labName_any s W hss
  have k14 := fun W => refName_any s W hss
  have k15 := fun W => labValue_any s W hss
  have k16 := fun W => refValue_any s W hss
  have hol : (outL L N).length ≤ 20 := Nat.le_trans (List.length_filter_le _ _) (by omega)
  have hS0 : shortB L = true := hsa
  generalize (sortL L).isSome = ok at k1 k2
  generalize (sortL L).getD [] = X at k1 k2 k11 k12
  generalize getV (getL L s.data.toList) = gv at k3 k4
  generalize (getL L s.data.toList).isSome = go at k3 k4
  generalize outL L N = O at k5 k6 hol
  generalize cmpRow L M = c at k7 k8
  generalize goodL L = g1 at k9 k10
  generalize goodL X = g2 at k11 k12
  generalize nameB s.data.toList = nb at k13 k14
  generalize valB s.data.toList = vb at k15 k16
  clear hsza hszl hszs hna hnb
  go_enter Try.func3, Try.ntmps3
  go_wp2_with (first
    | (go_at_call 7; refine (known7_any _).mono ?_; rintro e w1 ⟨rfl, hb1⟩; have hl1 := hl.step hb1; have hm1 := hm.step hb1; have ho1 := ho.step hb1)
    | (go_at_call 8; with_reducible refine (short_any A n cap L _ hl1 hn).mono ?_; rintro e w2 ⟨rfl, rfl⟩; rw [hsa])
    | (go_at_call 8; with_reducible refine (short_any A2 n2 cap2 M _ hm1 hn2).mono ?_; rintro e w2 ⟨rfl, rfl⟩; rw [hsb])
    | (go_at_call 9; with_reducible refine (k1 _ hl1).mono ?_; rintro e w2 ⟨⟨Al, nl, cl, rfl, hx2, hxn⟩, hb2⟩; have hl2 := hl1.step hb2; have hm2 := hm1.step hb2; have ho2 := ho1.step hb2)
    | (go_at_call 10; with_reducible refine (k2 _ hl2).mono ?_; rintro e w3 ⟨⟨Am, nm, cm, rfl, hy3, hyn⟩, hb3⟩; have hl3 := hl2.step hb3; have hm3 := hm2.step hb3; have ho3 := ho2.step hb3; have hx3 := hx2.step hb3)
    | (go_at_call 11; with_reducible refine (k3 _ hl3).mono ?_; rintro e w4 ⟨rfl, hb4⟩; have hl4 := hl3.step hb4; have hm4 := hm3.step hb4; have ho4 := ho3.step hb4; have hx4 := hx3.step hb4; have hy4 := hy3.step hb4)
    | (go_at_call 12; with_reducible refine (k4 _ hl4).mono ?_; rintro e w5 ⟨rfl, rfl⟩)
    | (go_at_call 13; with_reducible refine (same_true Al nl cl X Am nm cm _ hx4 hy4 (by omega)).mono ?_; rintro e w6 ⟨rfl, hb6⟩; have hl6 := hl4.step hb6; have hm6 := hm4.step hb6; have ho6 := ho4.step hb6; have hx6 := hx4.step hb6; have hy6 := hy4.step hb6)
    | (go_at_call 14; with_reducible refine (k5 _ hl6 ho6).mono ?_; rintro e w7 ⟨⟨v7, rfl, hown7⟩, hb7⟩; obtain ⟨Aw, cw, rfl, hw7⟩ := own_rws (f := labCell) (fun _ => rfl) hown7 rfl; have hl7 := hl6.step hb7; have hm7 := hm6.step hb7; have ho7 := ho6.step hb7; have hx7 := hx6.step hb7; have hy7 := hy6.step hb7)
    | (go_at_call 15; with_reducible refine (k6 _ hl7 ho7).mono ?_; rintro e w8 ⟨⟨v8, rfl, hown8⟩, hb8⟩; obtain ⟨Av, cv, rfl, hv8⟩ := own_rws (f := labCell) (fun _ => rfl) hown8 rfl; have hl8 := hl7.step hb8; have hm8 := hm7.step hb8; have hx8 := hx7.step hb8; have hy8 := hy7.step hb8; have hw8 := hw7.step hb8)
    | (go_at_call 13; with_reducible refine (same_true Aw _ cw O Av _ cv _ hw8 hv8 (by omega)).mono ?_; rintro e w9 ⟨rfl, hb9⟩; have hl9 := hl8.step hb9; have hm9 := hm8.step hb9; have hx9 := hx8.step hb9; have hy9 := hy8.step hb9)
    | (go_at_call 16; with_reducible refine (k7 _ hl9 hm9).mono ?_; rintro e w10 ⟨rfl, hb10⟩; have hl10 := hl9.step hb10; have hm10 := hm9.step hb10; have hx10 := hx9.step hb10; have hy10 := hy9.step hb10)
    | (go_at_call 17; with_reducible refine (k8 _ hl10 hm10).mono ?_; rintro e w11 ⟨rfl, hb11⟩; have hl11 := hl10.step hb11; have hx11 := hx10.step hb11; have hy11 := hy10.step hb11)
    | (go_at_call 18; with_reducible refine (k9 _ hl11).mono ?_; rintro e w12 ⟨rfl, hb12⟩; have hl12 := hl11.step hb12; have hx12 := hx11.step hb12; have hy12 := hy11.step hb12)
    | (go_at_call 19; with_reducible refine (k10 _ hl12).mono ?_; rintro e w13 ⟨rfl, hb13⟩; have hx13 := hx12.step hb13; have hy13 := hy12.step hb13)
    | (go_at_call 18; with_reducible refine (k11 Al nl cl _ hx13 (by omega)).mono ?_; rintro e w14 ⟨rfl, hb14⟩; have hy14 := hy13.step hb14)
    | (go_at_call 19; with_reducible refine (k12 Am nm cm _ hy14 (by omega)).mono ?_; rintro e w15 ⟨rfl, hb15⟩)
    | (go_at_call 20; with_reducible refine (k13 _).mono ?_; rintro e w16 ⟨rfl, hb16⟩)
    | (go_at_call 21; with_reducible refine (k14 _).mono ?_; rintro e w17 ⟨rfl, rfl⟩)
    | (go_at_call 22; with_reducible refine (k15 _).mono ?_; rintro e w18 ⟨rfl, hb18⟩)
    | (go_at_call 23; with_reducible refine (k16 _).mono ?_; rintro e w19 ⟨rfl, rfl⟩))
  go_ret
  exact ⟨by first | rfl | exact ret_bool (by simp), bl_any (bl_any (bl_any (bl_any (bl_any (bl_any (bl_any (bl_any (bl_any (bl_any (bl_any (bl_any (bl_any (bl_any (bl_any hb1 hb2) hb3) hb4) hb6) hb7) hb8) hb9) hb10) hb11) hb12) hb13) hb14) hb15) hb16) hb18⟩
end Go.Proofs.Ytlolbpefeagclaa
