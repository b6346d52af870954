/- EscapeTells: the reference's Back, and the walk. -/
import Derived.Test.YtdhkfbobfjkclaaEscRef2
import Derived.Test.YtdhkfbobfjkclaaMem
import Derived.BigQuiet
namespace Go.Proofs.Ytdhkfbobfjkclaa
open Go.RowKit
set_option maxRecDepth 100000 in
set_option maxHeartbeats 800000 in
theorem refBack_any (p wh : Int) (s : ByteArray) (w : World) (hs : s.size ≤ 1048576) :
    Calls Try.prog 33 #[.int .i64 p, .int .i64 wh, .string s] w fun e w' => e = .returned (.string ⟨(backB p wh s.data.toList).toArray⟩) ∧ Below w.heap.size w w' := by
  cases hu : undoB s.data.toList with
  | none =>
    have hb : backB p wh s.data.toList = s.data.toList := by unfold backB; rw [hu]
    rw [hb]
    clear hb
    go_enter Try.func33, Try.ntmps33
    go_wp2_with (go_at_call 36; refine (refUndo_any _ _ hs).mono ?_; rintro e w1 ⟨rfl, hb1⟩; rw [hu])
    go_ret
    exact ⟨ret_str (bytes_ext _ _ rfl), hb1⟩
  | some r =>
    have hus : undoS s.data.toList = ⟨r.toArray⟩ := by unfold undoS; rw [hu]
    have hrl := undoB_len _ _ _ (Nat.le_refl _) hu
    have hsz : (⟨r.toArray⟩ : ByteArray).size = r.length := rfl
    have hsl : s.data.toList.length = s.size := by simp
    have hb : backB p wh s.data.toList = if escB p wh r = s.data.toList then r else s.data.toList := by unfold backB; rw [hu]
    rw [hb]
    clear hb
    by_cases hq : escB p wh r = s.data.toList
    · rw [if_pos hq]
      have hq1 : (escB p wh r == s.toList) = true := by (rw [ByteArray.toList_eq, beq_iff_eq]; exact hq)
      have hq3 : (escB p wh r != s.toList) = false := by (rw [bne, hq1]; rfl)
      clear hq
      go_enter Try.func33, Try.ntmps33
      go_wp2_with (first
        | (go_at_call 36; refine (refUndo_any _ _ hs).mono ?_; rintro e w1 ⟨rfl, hb1⟩; rw [hu, hus])
        | (go_at_call 31; refine (refEscape_any _ _ _ _ (by omega)).mono ?_; rintro e w2 ⟨rfl, hb2⟩))
      go_ret
      exact ⟨rfl, bl_any hb1 hb2⟩
    · rw [if_neg hq]
      have hq1 : (escB p wh r == s.toList) = false := by (rw [ByteArray.toList_eq, beq_eq_false_iff_ne]; exact hq)
      have hq3 : (escB p wh r != s.toList) = true := by (rw [bne, hq1]; rfl)
      clear hq
      go_enter Try.func33, Try.ntmps33
      go_wp2_with (first
        | (go_at_call 36; refine (refUndo_any _ _ hs).mono ?_; rintro e w1 ⟨rfl, hb1⟩; rw [hu, hus])
        | (go_at_call 31; refine (refEscape_any _ _ _ _ (by omega)).mono ?_; rintro e w2 ⟨rfl, hb2⟩))
      go_ret
      exact ⟨ret_str (bytes_ext _ _ rfl), bl_any hb1 hb2⟩
set_option maxRecDepth 100000 in
set_option maxHeartbeats 3200000 in
theorem tells13_any (p wh : Int) (s : ByteArray) (A : Option Addr) (n cap : Nat) (l : List ByteArray) (m : Int) (w : World) (hm : G0 m w) (hl : IsRows strCell 1 w w.heap.size A n l) (hsz : ∀ s ∈ l, s.size ≤ 1048576) (hs : s.size ≤ 9223372036854775807) :
    Calls Try.prog 10 #[.int .i64 p, .int .i64 wh, .string s, .slice A n cap] w fun e w' => e = .returned (.bool true) ∧ Below w.heap.size w w' := by
  by_cases h200 : 200 < s.size
  · have hd200 : decide ((200 : Int) < s.size) = true := decide_eq_true (by omega)
    go_enter Try.func10, Try.ntmps10
    go_wp2_with (go_at_call 29; refine (known13_any m _ hm).mono ?_; rintro e w1 ⟨rfl, hb1⟩)
    go_ret
    exact ⟨rfl, hb1⟩
  have hd200 : decide ((200 : Int) < s.size) = false := decide_eq_false (by omega)
  by_cases h10 : 10 < n
  · have hd10 : decide ((10 : Int) < n) = true := decide_eq_true (by omega)
    go_enter Try.func10, Try.ntmps10
    go_wp2_with (go_at_call 29; refine (known13_any m _ hm).mono ?_; rintro e w1 ⟨rfl, hb1⟩)
    go_ret
    exact ⟨rfl, hb1⟩
  have hd10 : decide ((10 : Int) < n) = false := decide_eq_false (by omega)
  go_enter Try.func10, Try.ntmps10
  go_wp2_with (go_at_call 29; refine (known13_any m _ hm).mono ?_; rintro e w1 ⟨rfl, hb1⟩)
  have hg1 := hm.bel hb1
  go_loopw [32] (fun i wr => Below w.heap.size w wr ∧ G0 m wr ∧ Blk wr w1.heap.size 3 #[.int .i64 p, .int .i64 1, .int .i64 2, .int .i64 3, .int .i64 4] ∧ ∃ k : Nat, k ≤ 5 ∧ i = .int .i64 k) (fun i _ => 5 - (intOf i).toNat)
  case atStart => exact ⟨bl_alloc hb1 _, hg1.alloc _, Blk.new _ _ _, 0, by omega, rfl⟩
  case round =>
    obtain ⟨hbx, hgx, hblk, k, hk, rfl⟩ := hrel
    have hwr := hbx.size
    have hw1 := hb1.size
    by_cases hlt : k < 5
    · have hdk : decide ((k : Int) < 5) = true := decide_eq_true (by omega)
      have hk0 : (0 : Int) ≤ k := by omega
      have hk1 : (k : Int) < 5 := by omega
      obtain ⟨q, hq⟩ : ∃ q, wr.cell? ⟨w1.heap.size, k, none⟩ = some (.int .i64 q) := by
        rw [hblk.cell k]
        match k, hlt with
        | 0, _ => exact ⟨_, rfl⟩
        | 1, _ => exact ⟨_, rfl⟩
        | 2, _ => exact ⟨_, rfl⟩
        | 3, _ => exact ⟨_, rfl⟩
        | 4, _ => exact ⟨_, rfl⟩
      obtain ⟨wo, rfl⟩ : ∃ wo, wo = wr := ⟨_, rfl⟩
      go_wp2_with fail
      go_loopw [39] (fun i wx => Below w.heap.size w wx ∧ G0 m wx ∧ Blk wx w1.heap.size 3 #[.int .i64 p, .int .i64 1, .int .i64 2, .int .i64 3, .int .i64 4] ∧ Blk wx wo.heap.size 3 #[.int .i64 wh, .int .i64 0, .int .i64 1] ∧ ∃ j : Nat, j ≤ 3 ∧ i = .int .i64 j) (fun i _ => 3 - (intOf i).toNat)
      case atStart => exact ⟨bl_alloc hbx _, hgx.alloc _, hblk.alloc _, Blk.new _ _ _, 0, by omega, rfl⟩
      case round =>
        obtain ⟨wx, rfl⟩ : ∃ wx, wx = wr := ⟨_, rfl⟩
        obtain ⟨hby, hgy, hblk1, hblk2, j, hj, rfl⟩ := hrel
        have hwx := hby.size
        have hl2 := hblk2.lt
        have hl1 := hblk1.lt
        by_cases hlt3 : j < 3
        · have hdj : decide ((j : Int) < 3) = true := decide_eq_true (by omega)
          have hj0 : (0 : Int) ≤ j := by omega
          have hj1 : (j : Int) < 3 := by omega
          obtain ⟨r, hr⟩ : ∃ r, wx.cell? ⟨wo.heap.size, j, none⟩ = some (.int .i64 r) := by
            rw [hblk2.cell j]
            match j, hlt3 with
            | 0, _ => exact ⟨_, rfl⟩
            | 1, _ => exact ⟨_, rfl⟩
            | 2, _ => exact ⟨_, rfl⟩
          have hlx := (hl.below hby).more hwx
          have hsx : s.size ≤ 1048576 := by omega
          go_wp2_with (first
            | (go_at_call 30; refine (escape_any _ _ s _ hsx).mono ?_; rintro e w3 ⟨rfl, hb3⟩; have hby := bl_any hby hb3; have hgy := hgy.bel hb3; have hblk1 := hblk1.below hb3 hblk1.lt; have hblk2 := hblk2.below hb3 hblk2.lt)
            | (go_at_call 31; refine (refEscape_any _ _ s _ hsx).mono ?_; rintro e w3 ⟨rfl, hb3⟩; have hby := bl_any hby hb3; have hgy := hgy.bel hb3; have hblk1 := hblk1.below hb3 hblk1.lt; have hblk2 := hblk2.below hb3 hblk2.lt)
            | (go_at_call 32; refine (back_any _ _ s m _ hsx hgy).mono ?_; rintro e w3 ⟨rfl, hb3⟩; have hby := bl_any hby hb3; have hgy := hgy.bel hb3; have hblk1 := hblk1.below hb3 hblk1.lt; have hblk2 := hblk2.below hb3 hblk2.lt)
            | (go_at_call 33; refine (refBack_any _ _ s _ hsx).mono ?_; rintro e w3 ⟨rfl, hb3⟩; have hby := bl_any hby hb3; have hgy := hgy.bel hb3; have hblk1 := hblk1.below hb3 hblk1.lt; have hblk2 := hblk2.below hb3 hblk2.lt)
            | (go_at_call 34; refine (all_any _ _ A n cap l _ ((hl.below hby).more hby.size) hsz (by omega)).mono ?_; rintro e w3 ⟨⟨v, rfl, hown⟩, hb3⟩; obtain ⟨A', cap', rfl, hrows⟩ := own_rws (f := strCell) (fun _ => rfl) hown (by simp [hl.1]); have hby := bl_any hby hb3; have hgy := hgy.bel hb3; have hblk1 := hblk1.below hb3 hblk1.lt; have hblk2 := hblk2.below hb3 hblk2.lt))
          obtain ⟨wm, rfl⟩ : ∃ wm, wm = w3 := ⟨_, rfl⟩
          go_loopw [14] (fun i wy => Below w.heap.size w wy ∧ G0 m wy ∧ Blk wy w1.heap.size 3 #[.int .i64 p, .int .i64 1, .int .i64 2, .int .i64 3, .int .i64 4] ∧ Blk wy wo.heap.size 3 #[.int .i64 wh, .int .i64 0, .int .i64 1] ∧ IsRows strCell 1 wy wm.heap.size A' n (l.map (escS q r)) ∧ wm.heap.size ≤ wy.heap.size ∧ ∃ i0 : Nat, i0 ≤ n ∧ i = .int .i64 i0) (fun i _ => n - (intOf i).toNat)
          case atStart => exact ⟨hby, hgy, hblk1, hblk2, hrows, Nat.le_refl _, 0, by omega, rfl⟩
          case round =>
            obtain ⟨wy, rfl⟩ : ∃ wy, wy = wr := ⟨_, rfl⟩
            obtain ⟨hbz, hgz, hblk3, hblk4, hrows2, hmz, i, hi, rfl⟩ := hrel
            have hwz := hbz.size
            by_cases hlti : i < n
            · have hdi : decide ((i : Int) < n) = true := decide_eq_true (by omega)
              have hi0 : (0 : Int) ≤ i := by omega
              have hi1 : (i : Int) < n := by omega
              have hll := hl.1
              obtain ⟨x, hx⟩ : ∃ x, l[i]? = some x := ⟨_, List.getElem?_eq_getElem (by omega)⟩
              have hxs := hsz x (List.mem_of_getElem? hx)
              obtain ⟨b, off, rfl, hgb, hrc⟩ := hl.2 (by omega)
              obtain ⟨b2, off2, rfl, hgb2, hrc2⟩ := hrows2.2 (by omega)
              have e0 : wy.cell? ⟨b, off + i, none⟩ = some (.string x) := (hbz.cell (p := ⟨b, off + i, none⟩) hgb).trans (by have := hrc i x 0 _ hx rfl; simpa using this)
              have e1 : wy.cell? ⟨b2, off2 + i, none⟩ = some (.string ⟨(escB q r x.data.toList).toArray⟩) := (by have := hrc2 i (escS q r x) 0 _ (by (rw [List.getElem?_map, hx]; rfl)) rfl; simpa [escS] using this)
              by_cases hx100 : x.size ≤ 100
              · have hdx : decide ((x.size : Int) ≤ 100) = true := decide_eq_true (by omega)
                have hgd : b < wy.drew.heap.size := (by show b < wy.heap.size; omega)
                have hgd2 : b2 < wy.drew.heap.size := (by show b2 < wy.heap.size; omega)
                go_wp2_with fail
                go_region_held3 (fun w' => w'.cell? ⟨b, off + i, none⟩ = some (.string x) ∧ w'.cell? ⟨b2, off2 + i, none⟩ = some (.string ⟨(escB q r x.data.toList).toArray⟩)) (first | (simp [go_sem, *]; done) | exact ⟨(hcA _ _ hgd).trans e0, (hcA _ _ hgd2).trans e1⟩) (first
                  | (go_at_call 31; refine (refEscape_any _ _ x _ hxs).mono ?_; rintro e wA ⟨rfl, hbA⟩; obtain ⟨hcA, hfA⟩ := bcell hbA))
                all_goals
                  go_wp2_with fail
                  exact ⟨⟨bl_any (bl_drewN hbz 1) hbA, G0.bel (G0.drew hgz) hbA, (hblk3.drewN 1).below hbA hblk3.lt, (hblk4.drewN 1).below hbA hblk4.lt, hrows2.keep (fun b3 o3 h3 => hcA b3 o3 (by show b3 < wy.heap.size; omega)), Nat.le_trans hmz hbA.size, i + 1, by omega, rfl⟩, by (simp only [intOf]; omega)⟩
              · have hdx : decide ((x.size : Int) ≤ 100) = false := decide_eq_false (by omega)
                go_wp2_with fail
                go_quiet (fail)
                go_wp2_with fail
                exact ⟨⟨bl_drewN hbz _, hgz.drewN _, hblk3.drewN _, hblk4.drewN _, hrows2.keep (fun _ _ _ => rfl), hmz, i + 1, by omega, rfl⟩, by (simp only [intOf]; omega)⟩
            · have hdi : decide ((i : Int) < n) = false := decide_eq_false (by omega)
              go_wp2_with fail
              exact ⟨⟨hbz, hgz, hblk3, hblk4, j + 1, by omega, rfl⟩, by (simp only [intOf]; omega)⟩
        · have hdj : decide ((j : Int) < 3) = false := decide_eq_false (by omega)
          go_wp2_with fail
          exact ⟨⟨hby, hgy, hblk1, k + 1, by omega, rfl⟩, by (simp only [intOf]; omega)⟩
    · have hdk : decide ((k : Int) < 5) = false := decide_eq_false (by omega)
      go_wp2_with (first
        | (go_at_call 35; refine (undo_any _ m _ (by omega) hgx).mono ?_; rintro e w3 ⟨rfl, hb3⟩)
        | (go_at_call 36; refine (refUndo_any _ _ (by omega)).mono ?_; rintro e w4 ⟨rfl, hb4⟩))
      go_ret
      exact ⟨by first | rfl | exact ret_bool (by simp), bl_any (bl_any hbx hb3) hb4⟩
end Go.Proofs.Ytdhkfbobfjkclaa
