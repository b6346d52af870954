/- The walks of label.Compare, of slices.CompareFunc and cmp.Or at labels, of the reference's CompareLabels. -/
import Derived.Test.YtjffagffjcbolaaLabB
import Derived.Test.YtjffagffjcbolaaQuiet2
import Derived.Deep.RegionHeld3
import Derived.Deep.DrawnRows
import Derived.WalkLawsBesides
namespace Go.Proofs.Ytjffagffjcbolaa
set_option linter.unusedVariables false
set_option linter.unusedSimpArgs false
open Go.RowKit
attribute [local go_sem ↓] Go.wp_at_zero Go.wp_at_succ
def orI (x y : Int) : Int := if x ≠ 0 then x else y
theorem row_at {L M : List Lab} {k : Nat} {x y : Lab} (h : L[k]? = some x) (g : M[k]? = some y) : cmpRow (L.drop k) (M.drop k) = if cmpLab x y ≠ 0 then cmpLab x y else cmpRow (L.drop (k + 1)) (M.drop (k + 1)) := by
  rw [drop_at h, drop_at g, cmpRow]
theorem row_more {L M : List Lab} {k : Nat} {x : Lab} (h : L[k]? = some x) (g : M.length ≤ k) : cmpRow (L.drop k) (M.drop k) = 1 := by
  rw [drop_at h, List.drop_of_length_le g, cmpRow]
theorem row_less {L M : List Lab} {k : Nat} {y : Lab} (h : L.length ≤ k) (g : M[k]? = some y) : cmpRow (L.drop k) (M.drop k) = -1 := by
  rw [drop_at g, List.drop_of_length_le h, cmpRow]
theorem row_same {L M : List Lab} {k : Nat} (h : L.length ≤ k) (g : M.length ≤ k) : cmpRow (L.drop k) (M.drop k) = 0 := by
  rw [List.drop_of_length_le h, List.drop_of_length_le g, cmpRow]
/-! ### the reference's -/
theorem rlText_any (x y : ByteArray) (w : World) :
    Calls Try.prog 69 #[.string x, .string y] w fun e w' => e = .returned (.int .i64 (Lib.compareBytes x.data.toList y.data.toList)) ∧ w = w' := by
  have h3 := cmpB_tri x.data.toList y.data.toList
  rcases bs3 x.data.toList y.data.toList with k | k | k
  · have HV := Lib.hid (h3.1 k)
    have h1 : Op.bytesLess x.toList y.toList = true := by (rw [bytesLess_eq, ByteArray.toList_eq, ByteArray.toList_eq]; exact decide_eq_true k)
    clear h3 k
    go_enter Try.func69, Try.ntmps69
    go_wp2_with fail
    go_ret
    exact ⟨ret_int HV.out.symm, rfl⟩
  · have HV := Lib.hid (h3.2.1 k)
    have h1 : Op.bytesLess x.toList y.toList = false := by (rw [bytesLess_eq, ByteArray.toList_eq, ByteArray.toList_eq]; exact decide_eq_false (by rw [k]; exact List.lt_irrefl _))
    have h2 : (x.toList == y.toList) = true := by (rw [ByteArray.toList_eq, ByteArray.toList_eq, beq_iff_eq]; exact k)
    clear h3 k
    go_enter Try.func69, Try.ntmps69
    go_wp2_with fail
    go_ret
    exact ⟨ret_int HV.out.symm, rfl⟩
  · have HV := Lib.hid (h3.2.2 k)
    have h1 : Op.bytesLess x.toList y.toList = false := by (rw [bytesLess_eq, ByteArray.toList_eq, ByteArray.toList_eq]; exact decide_eq_false (List.not_lt.2 (List.le_of_lt k)))
    have h2 : (x.toList == y.toList) = false := by (rw [ByteArray.toList_eq, ByteArray.toList_eq, beq_eq_false_iff_ne]; intro h; rw [h] at k; exact List.lt_irrefl _ k)
    clear h3 k
    go_enter Try.func69, Try.ntmps69
    go_wp2_with fail
    go_ret
    exact ⟨ret_int HV.out.symm, rfl⟩
def numB (a b : Int) : Int := if a < b then -1 else if b < a then 1 else 0
theorem rlNumber_any (a b : Int) (w : World) :
    Calls Try.prog 70 #[.int .i64 a, .int .i64 b] w fun e w' => e = .returned (.int .i64 (numB a b)) ∧ w = w' := by
  by_cases h : a < b
  · have HV : Hid (numB a b = -1) := Lib.hid (if_pos h)
    go_enter Try.func70, Try.ntmps70
    go_wp2_with fail
    go_ret
    exact ⟨ret_int HV.out.symm, rfl⟩
  · by_cases k : b < a
    · have HV : Hid (numB a b = 1) := Lib.hid (by unfold numB; rw [if_neg h, if_pos k])
      go_enter Try.func70, Try.ntmps70
      go_wp2_with fail
      go_ret
      exact ⟨ret_int HV.out.symm, rfl⟩
    · have HV : Hid (numB a b = 0) := Lib.hid (by unfold numB; rw [if_neg h, if_neg k])
      go_enter Try.func70, Try.ntmps70
      go_wp2_with fail
      go_ret
      exact ⟨ret_int HV.out.symm, rfl⟩
theorem row_end {L M : List Lab} {k : Nat} (h : L.length ≤ k ∨ M.length ≤ k) (g : k ≤ L.length) (g2 : k ≤ M.length) : cmpRow (L.drop k) (M.drop k) = numB L.length M.length := by
  unfold numB
  by_cases h1 : L.length ≤ k
  · by_cases h2 : M.length ≤ k
    · rw [row_same h1 h2, if_neg (by omega), if_neg (by omega)]
    · rw [row_less h1 (List.getElem?_eq_getElem (by omega)), if_pos (by omega)]
  · rw [row_more (List.getElem?_eq_getElem (by omega)) (by omega), if_neg (by omega), if_pos (by omega)]
set_option maxRecDepth 100000 in
set_option maxHeartbeats 1600000 in
theorem refCompare_any (A : Option Addr) (n cap : Nat) (L : List Lab) (A2 : Option Addr) (n2 cap2 : Nat) (M : List Lab) (w : World) (hl : IsRows labCell 2 w w.heap.size A n L) (hn : n ≤ 4611686018427387904) (hm : IsRows labCell 2 w w.heap.size A2 n2 M) (hn2 : n2 ≤ 4611686018427387904) :
    Calls Try.prog 56 #[.slice A n cap, .slice A2 n2 cap2] w fun e w' => e = .returned (.int .i64 (cmpRow L M)) ∧ Below w.heap.size w w' := by
  have hll := hl.1
  have hmm := hm.1
  go_enter Try.func56, Try.ntmps56
  go_wp2_with fail
  go_loopw [5] (fun i wr => Below w.heap.size w wr ∧ ∃ k : Nat, k ≤ n ∧ k ≤ n2 ∧ i = .int .i64 k ∧ Hid (cmpRow L M = cmpRow (L.drop k) (M.drop k))) (fun i _ => n - (intOf i).toNat)
  case atStart => exact ⟨Below.refl _ _, 0, by omega, by omega, rfl, Lib.hid rfl⟩
  case round =>
    obtain ⟨hbw, k, hk, hk2, rfl, HG⟩ := hrel
    have hwr := hbw.size
    have hk0 : (0 : Int) ≤ k := by omega
    by_cases hlt : k < n ∧ k < n2
    · obtain ⟨hlt, hlt2⟩ := hlt
      have hdk : decide ((k : Int) < n) = true := decide_eq_true (by omega)
      have hdk2 : decide ((k : Int) < n2) = true := decide_eq_true (by omega)
      have hk1 : (k : Int) < n := by omega
      have hk3 : (k : Int) < n2 := by omega
      obtain ⟨b, off, x, y, rfl, hgb, hx, e0, e1⟩ := lab_at (hl.below hbw) hlt
      obtain ⟨b2, off2, x2, y2, rfl, hgb2, hx2, d0, d1⟩ := lab_at (hm.below hbw) hlt2
      have HR := Lib.hid (HG.out.trans (row_at hx hx2))
      have hu : cmpLab (x, y) (x2, y2) = if Lib.compareBytes x.data.toList x2.data.toList ≠ 0 then Lib.compareBytes x.data.toList x2.data.toList else Lib.compareBytes y.data.toList y2.data.toList := rfl
      have HU := Lib.hid hu
      clear hu HG
      have t1 := fun W => rlText_any x x2 W
      have t2 := fun W => rlText_any y y2 W
      generalize Lib.compareBytes x.data.toList x2.data.toList = c1 at t1 HU
      generalize Lib.compareBytes y.data.toList y2.data.toList = c2 at t2 HU
      cases hc : (c1 == 0)
      · have hc2 : (c1 != 0) = true := by rw [bne, hc]; rfl
        have HF : Hid (cmpRow L M = c1) := Lib.hid (by have h : c1 ≠ 0 := (by simpa using hc); rw [HR.out, HU.out, if_pos h, if_pos h])
        clear HR HU
        go_wp2_with fail
        go_quiet ((go_at_call 69; exact quiet_left (t1 _)))
        go_wp2_with fail
        go_ret
        exact ⟨ret_int HF.out.symm, bl_drewN hbw _⟩
      · have hc2 : (c1 != 0) = false := by rw [bne, hc]; rfl
        cases hd : (c2 == 0)
        · have hd2 : (c2 != 0) = true := by rw [bne, hd]; rfl
          have HF : Hid (cmpRow L M = c2) := Lib.hid (by have h : c2 ≠ 0 := (by simpa using hd); have h0 : ¬ c1 ≠ 0 := (by simpa using hc); rw [HR.out, HU.out, if_neg h0, if_pos h])
          clear HR HU
          go_wp2_with fail
          go_quiet ((go_at_call 69; exact quiet_left (t1 _)))
          go_wp2_with fail
          go_quiet ((go_at_call 69; exact quiet_add_left (t2 _)))
          go_wp2_with fail
          go_ret
          exact ⟨ret_int HF.out.symm, bl_drewN hbw _⟩
        · have hd2 : (c2 != 0) = false := by rw [bne, hd]; rfl
          have HF : Hid (cmpRow L M = cmpRow (L.drop (k + 1)) (M.drop (k + 1))) := Lib.hid (by have h : ¬ c2 ≠ 0 := (by simpa using hd); have h0 : ¬ c1 ≠ 0 := (by simpa using hc); rw [HR.out, HU.out, if_neg h0, if_neg h])
          clear HR HU
          go_wp2_with fail
          go_quiet ((go_at_call 69; exact quiet_left (t1 _)))
          go_wp2_with fail
          go_quiet ((go_at_call 69; exact quiet_add_left (t2 _)))
          go_wp2_with fail
          exact ⟨⟨bl_drewN hbw _, k + 1, by omega, by omega, rfl, HF⟩, by (simp only [intOf]; omega)⟩
    · have HF : Hid (cmpRow L M = numB n n2) := Lib.hid (by have := HG.out.trans (row_end (L := L) (M := M) (k := k) (by omega) (by omega) (by omega)); rw [hll, hmm] at this; exact this)
      clear HG
      have hnum := fun W => rlNumber_any n n2 W
      by_cases hlt1 : k < n
      · have hdk : decide ((k : Int) < n) = true := decide_eq_true (by omega)
        have hdk2 : decide ((k : Int) < n2) = false := decide_eq_false (by omega)
        go_wp2_with (go_at_call 70; refine (hnum _).mono ?_; rintro e w1 ⟨rfl, rfl⟩)
        go_ret
        exact ⟨ret_int HF.out.symm, hbw⟩
      · have hdk : decide ((k : Int) < n) = false := decide_eq_false (by omega)
        go_wp2_with (go_at_call 70; refine (hnum _).mono ?_; rintro e w1 ⟨rfl, rfl⟩)
        go_ret
        exact ⟨ret_int HF.out.symm, hbw⟩
def sameB (L M : List Lab) : Bool := decide (cmpRow L M = 0)
theorem refSame_any (A : Option Addr) (n cap : Nat) (L : List Lab) (A2 : Option Addr) (n2 cap2 : Nat) (M : List Lab) (w : World) (hl : IsRows labCell 2 w w.heap.size A n L) (hn : n ≤ 4611686018427387904) (hm : IsRows labCell 2 w w.heap.size A2 n2 M) (hn2 : n2 ≤ 4611686018427387904) :
    Calls Try.prog 38 #[.slice A n cap, .slice A2 n2 cap2] w fun e w' => e = .returned (.bool (sameB L M)) ∧ Below w.heap.size w w' := by
  go_enter Try.func38, Try.ntmps38
  go_wp2_with (go_at_call 56; refine (refCompare_any A n cap L A2 n2 cap2 M _ hl hn hm hn2).mono ?_; rintro e w1 ⟨rfl, hb1⟩)
  go_ret
  exact ⟨ret_bool (bcl (by unfold sameB; simp)), hb1⟩
theorem sameB_iff (L M : List Lab) : sameB L M = true ↔ L = M := by
  unfold sameB; rw [decide_eq_true_eq, cmpRow_zero]
end Go.Proofs.Ytjffagffjcbolaa
