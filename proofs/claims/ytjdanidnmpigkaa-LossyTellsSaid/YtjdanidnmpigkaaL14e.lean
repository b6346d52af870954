/- The walk of LossyTells. -/
import Derived.Test.YtjdanidnmpigkaaCollR
namespace Go.Proofs.Ytjdanidnmpigkaa
open Go.RowKit
set_option maxRecDepth 100000 in
set_option maxHeartbeats 6400000 in
theorem tells14_any (p wh : Int) (s : ByteArray) (A : Option Addr) (n cap : Nat) (l : List ByteArray) (w : World) (hl : IsRows strCell 1 w w.heap.size A n l) :
    Calls Try.prog 3 #[.int .i64 p, .int .i64 wh, .string s, .slice A n cap] w fun e w' => e = .returned (.bool true) ∧ Below w.heap.size w w' := by
  have hll := hl.1
  by_cases h200 : 200 < s.size
  · have hd200 : decide ((200 : Int) < s.size) = true := decide_eq_true (by omega)
    go_enter Try.func3, Try.ntmps3
    go_wp2_with (go_at_call 7; refine (known14_any _).mono ?_; rintro e w1 ⟨rfl, hb1⟩)
    go_ret
    exact ⟨rfl, hb1⟩
  have hd200 : decide ((200 : Int) < s.size) = false := decide_eq_false (by omega)
  by_cases h14 : 14 < n
  · have hd14 : decide ((14 : Int) < n) = true := decide_eq_true (by omega)
    go_enter Try.func3, Try.ntmps3
    go_wp2_with (go_at_call 7; refine (known14_any _).mono ?_; rintro e w1 ⟨rfl, hb1⟩)
    go_ret
    exact ⟨rfl, hb1⟩
  have hd14 : decide ((14 : Int) < n) = false := decide_eq_false (by omega)
  go_enter Try.func3, Try.ntmps3
  go_wp2_with (go_at_call 7; refine (known14_any _).mono ?_; rintro e w1 ⟨rfl, hb1⟩)
  go_loopw [9] (fun i wr => Below w.heap.size w wr ∧ ∃ k : Nat, k ≤ n ∧ i = .int .i64 k ∧ ∀ x ∈ l.take k, x.size ≤ 100) (fun i _ => n - (intOf i).toNat)
  case atStart => exact ⟨hb1, 0, by omega, rfl, fun x hx => by simp at hx⟩
  case round =>
    obtain ⟨hbw, k, hk, rfl, hshort⟩ := hrel
    by_cases hlt : k < n
    · have hdk : decide ((k : Int) < n) = true := decide_eq_true (by omega)
      have hk0 : (0 : Int) ≤ k := by omega
      have hk1 : (k : Int) < n := by omega
      obtain ⟨x, hx⟩ : ∃ x, l[k]? = some x := ⟨_, List.getElem?_eq_getElem (by omega)⟩
      obtain ⟨b, off, rfl, hgb, hrc⟩ := hl.2 (by omega)
      have e0 : wr.cell? ⟨b, off + k, none⟩ = some (.string x) := (hbw.cell (p := ⟨b, off + k, none⟩) hgb).trans (by have := hrc k x 0 _ hx rfl; simpa using this)
      by_cases h100 : 100 < x.size
      · have hd : decide ((100 : Int) < x.size) = true := decide_eq_true (by omega)
        go_wp2_with fail
        go_ret
        exact ⟨rfl, hbw⟩
      · have hd : decide ((100 : Int) < x.size) = false := decide_eq_false (by omega)
        go_wp2_with fail
        refine ⟨⟨hbw, k + 1, by omega, rfl, fun y hy => ?_⟩, by (simp only [intOf]; omega)⟩
        rw [List.take_add_one, hx] at hy
        simp only [Option.toList_some, List.mem_append, List.mem_singleton] at hy
        rcases hy with hy | rfl
        · exact hshort y hy
        · omega
    · have hdk : decide ((k : Int) < n) = false := decide_eq_false (by omega)
      obtain rfl : k = n := by omega
      rw [List.take_of_length_le (by omega)] at hshort
      have hsz : ∀ x ∈ l, x.size ≤ 1048576 := fun x hx => Nat.le_trans (hshort x hx) (by decide)
      have hsx : s.size ≤ 1048576 := by omega
      have hk14 : k ≤ 1048576 := by omega
      obtain ⟨w1, rfl⟩ : ∃ w1, w1 = wr := ⟨_, rfl⟩
      have hw1 := hbw.size
      go_wp2_with fail
      go_loopw [45] (fun i wr => Below w.heap.size w wr ∧ Blk wr w1.heap.size 3 #[.int .i64 p, .int .i64 1, .int .i64 2, .int .i64 3, .int .i64 4] ∧ ∃ k : Nat, k ≤ 5 ∧ i = .int .i64 k) (fun i _ => 5 - (intOf i).toNat)
      case atStart => exact ⟨bl_alloc hbw _, Blk.new _ _ _, 0, by omega, rfl⟩
      case round =>
        obtain ⟨wo, rfl⟩ : ∃ wo, wo = wr := ⟨_, rfl⟩
        obtain ⟨hbx, hblk, a, ha, rfl⟩ := hrel
        have hwr := hbx.size
        by_cases hlt5 : a < 5
        · have hda : decide ((a : Int) < 5) = true := decide_eq_true (by omega)
          have ha0 : (0 : Int) ≤ a := by omega
          have ha1 : (a : Int) < 5 := by omega
          obtain ⟨q, hq⟩ : ∃ q, wo.cell? ⟨w1.heap.size, a, none⟩ = some (.int .i64 q) := by
            rw [hblk.cell a]
            match a, hlt5 with
            | 0, _ => exact ⟨_, rfl⟩
            | 1, _ => exact ⟨_, rfl⟩
            | 2, _ => exact ⟨_, rfl⟩
            | 3, _ => exact ⟨_, rfl⟩
            | 4, _ => exact ⟨_, rfl⟩
          go_wp2_with fail
          go_loopw [52] (fun i wx => Below w.heap.size w wx ∧ Blk wx w1.heap.size 3 #[.int .i64 p, .int .i64 1, .int .i64 2, .int .i64 3, .int .i64 4] ∧ Blk wx wo.heap.size 3 #[.int .i64 wh, .int .i64 0, .int .i64 1] ∧ ∃ j : Nat, j ≤ 3 ∧ i = .int .i64 j) (fun i _ => 3 - (intOf i).toNat)
          case atStart => exact ⟨bl_alloc hbx _, hblk.alloc _, Blk.new _ _ _, 0, by omega, rfl⟩
          case round =>
            obtain ⟨wx, rfl⟩ : ∃ wx, wx = wr := ⟨_, rfl⟩
            obtain ⟨hby, hblk1, hblk2, j, hj, rfl⟩ := hrel
            have hwx := hby.size
            have hl2 := hblk2.lt
            have hl1 := hblk1.lt
            by_cases hlt3 : j < 3
            · have hdj : decide ((j : Int) < 3) = true := decide_eq_true (by omega)
              have hj0 : (0 : Int) ≤ j := by omega
              have hj1 : (j : Int) < 3 := by omega
              obtain ⟨r, hr⟩ : ∃ r, wx.cell? ⟨wo.heap.size, j, none⟩ = some (.int .i64 r) := by
                rw [hblk2.cell j]
                match j, hlt3 with
                | 0, _ => exact ⟨_, rfl⟩
                | 1, _ => exact ⟨_, rfl⟩
                | 2, _ => exact ⟨_, rfl⟩
              have kc := fun W h => coll_any q r A k cap l W h hsz hk14
              have kd := fun W h => refColl_any q r A k cap l W h hsz hk14
              generalize (collide q r (l.map (·.data.toList))).isSome = ok at kc kd
              generalize clA (collide q r (l.map (·.data.toList))) = cA at kc kd
              generalize clB (collide q r (l.map (·.data.toList))) = cB at kc kd
              have nc := neqClash
              go_wp2_with (first
                | (go_at_call 8; with_reducible refine (kc _ ((hl.below hby).more hby.size)).mono ?_; rintro e w3 ⟨rfl, hb3⟩; have hs3 := hb3.size; have hb3a := bl_alloc (bl_any hby hb3) (.cells #[.string cA, .string cB] 26); have b1 := (hblk1.below hb3 hblk1.lt).alloc (.cells #[.string cA, .string cB] 26); have b2 := (hblk2.below hb3 hblk2.lt).alloc (.cells #[.string cA, .string cB] 26); have b3 := Blk.new w3 26 #[.string cA, .string cB])
                | (go_at_call 9; with_reducible refine (kd _ ((hl.below hb3a).more hb3a.size)).mono ?_; rintro e w4 ⟨rfl, hb4⟩; have hs4 := hb4.size; have hb4a := bl_alloc (bl_any hb3a hb4) (.cells #[.string cA, .string cB] 26); have d1 := (b1.below hb4 b1.lt).alloc (.cells #[.string cA, .string cB] 26); have d2 := (b2.below hb4 b2.lt).alloc (.cells #[.string cA, .string cB] 26); have d3 := (b3.below hb4 b3.lt).alloc (.cells #[.string cA, .string cB] 26); have d4 := Blk.new w4 26 #[.string cA, .string cB])
                | (go_at_call 10; with_reducible refine (lall_any _ _ A k cap l _ ((hl.below hb4a).more hb4a.size) hsz hk14).mono ?_; rintro e w5 ⟨⟨v, rfl, hown⟩, hb5⟩; obtain ⟨A', cap', rfl, hrows⟩ := own_rws (f := strCell) (fun _ => rfl) hown (by simp [hll]); have hb5a := bl_any hb4a hb5; have f1 := d1.below hb5 d1.lt; have f2 := d2.below hb5 d2.lt; have f3 := d3.below hb5 d3.lt; have f4 := d4.below hb5 d4.lt; have c0 := f3.cell 0; have c1 := f3.cell 1; have z0 := f4.cell 0; have z1 := f4.cell 1; simp at c0 c1 z0 z1)
                | (go_at_call 11; with_reducible refine (name_any _ _ s _ hsx).mono ?_; rintro e w6 ⟨rfl, hb6⟩)
                | (go_at_call 12; with_reducible refine (refLossy_any _ _ s _ hsx).mono ?_; rintro e w7 ⟨rfl, hb7⟩))
              have hb8 := bl_any hb6 hb7
              have hrows8 := (hrows.below hb8).more hb8.size
              have g1 := f1.below hb8 f1.lt
              have g2 := f2.below hb8 f2.lt
              have hb8a := bl_any hb5a hb8
              clear kc kd nc b1 b2 b3 d1 d2 d3 d4 f1 f2 f3 f4 c0 c1 z0 z1 hown hrows hblk1 hblk2
              obtain ⟨wm, rfl⟩ : ∃ wm, wm = w7 := ⟨_, rfl⟩
              go_loopw [19] (fun i wy => Below w.heap.size w wy ∧ Blk wy w1.heap.size 3 #[.int .i64 p, .int .i64 1, .int .i64 2, .int .i64 3, .int .i64 4] ∧ Blk wy wo.heap.size 3 #[.int .i64 wh, .int .i64 0, .int .i64 1] ∧ IsRows strCell 1 wy wm.heap.size A' k (l.map (lossS q r)) ∧ wm.heap.size ≤ wy.heap.size ∧ ∃ i0 : Nat, i0 ≤ k ∧ i = .int .i64 i0) (fun i _ => k - (intOf i).toNat)
              case atStart => exact ⟨hb8a, g1, g2, hrows8, Nat.le_refl _, 0, by omega, rfl⟩
              case round =>
                obtain ⟨wy, rfl⟩ : ∃ wy, wy = wr := ⟨_, rfl⟩
                obtain ⟨hbz, hblk3, hblk4, hrows2, hmz, i, hi, rfl⟩ := hrel
                have hwz := hbz.size
                by_cases hlti : i < k
                · have hdi : decide ((i : Int) < k) = true := decide_eq_true (by omega)
                  have hi0 : (0 : Int) ≤ i := by omega
                  have hi1 : (i : Int) < k := by omega
                  obtain ⟨x, hx⟩ : ∃ x, l[i]? = some x := ⟨_, List.getElem?_eq_getElem (by omega)⟩
                  have hxs := hsz x (List.mem_of_getElem? hx)
                  obtain ⟨b, off, rfl, hgb, hrc⟩ := hl.2 (by omega)
                  obtain ⟨b2, off2, rfl, hgb2, hrc2⟩ := hrows2.2 (by omega)
                  have e0 : wy.cell? ⟨b, off + i, none⟩ = some (.string x) := (hbz.cell (p := ⟨b, off + i, none⟩) hgb).trans (by have := hrc i x 0 _ hx rfl; simpa using this)
                  have e1 : wy.cell? ⟨b2, off2 + i, none⟩ = some (.string ⟨(lossB q r x.data.toList).toArray⟩) := (by have := hrc2 i (lossS q r x) 0 _ (by (rw [List.getElem?_map, hx]; rfl)) rfl; simpa [lossS] using this)
                  have hgd : b < wy.drew.heap.size := (by show b < wy.heap.size; omega)
                  have hgd2 : b2 < wy.drew.heap.size := (by show b2 < wy.heap.size; omega)
                  go_wp2_with fail
                  go_region_held3 (fun w' => w'.cell? ⟨b, off + i, none⟩ = some (.string x) ∧ w'.cell? ⟨b2, off2 + i, none⟩ = some (.string ⟨(lossB q r x.data.toList).toArray⟩)) (first | (simp [go_sem, *]; done) | exact ⟨(hcA _ _ hgd).trans e0, (hcA _ _ hgd2).trans e1⟩) (first
                    | (go_at_call 12; refine (refLossy_any _ _ x _ hxs).mono ?_; rintro e wA ⟨rfl, hbA⟩; obtain ⟨hcA, hfA⟩ := bcell hbA))
                  all_goals
                    go_wp2_with fail
                    exact ⟨⟨bl_any (bl_drewN hbz 1) hbA, (hblk3.drewN 1).below hbA hblk3.lt, (hblk4.drewN 1).below hbA hblk4.lt, hrows2.keep (fun b3 o3 h3 => hcA b3 o3 (by show b3 < wy.heap.size; omega)), Nat.le_trans hmz hbA.size, i + 1, by omega, rfl⟩, by (simp only [intOf]; omega)⟩
                · have hdi : decide ((i : Int) < k) = false := decide_eq_false (by omega)
                  go_wp2_with fail
                  exact ⟨⟨hbz, hblk3, hblk4, j + 1, by omega, rfl⟩, by (simp only [intOf]; omega)⟩
            · have hdj : decide ((j : Int) < 3) = false := decide_eq_false (by omega)
              go_wp2_with fail
              exact ⟨⟨hby, hblk1, a + 1, by omega, rfl⟩, by (simp only [intOf]; omega)⟩
        · have hda : decide ((a : Int) < 5) = false := decide_eq_false (by omega)
          go_wp2_with fail
          go_ret
          exact ⟨rfl, hbx⟩
end Go.Proofs.Ytjdanidnmpigkaa
