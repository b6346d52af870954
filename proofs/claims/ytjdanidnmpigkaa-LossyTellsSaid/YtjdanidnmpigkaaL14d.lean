/- The walk of LossyPair. -/
import Derived.Test.YtjdanidnmpigkaaL14a
import Derived.BigQuiet
import Derived.Deep.RegionHeld3
import Derived.WalkLawsBesides
namespace Go.Proofs.Ytjdanidnmpigkaa
open Go.RowKit
theorem bl_eq (a b : ByteArray) : (a.toList == b.toList) = (a.data.toList == b.data.toList) := by rw [ByteArray.toList_eq, ByteArray.toList_eq]
theorem clA_list (c : Bs × Bs) : (clA (some c)).toList = c.1 := by rw [ByteArray.toList_eq]; rfl
theorem clB_list (c : Bs × Bs) : (clB (some c)).toList = c.2 := by rw [ByteArray.toList_eq]; rfl
theorem keepS {w w' w'' : World} {g : Nat} {u v : Value} (h : (w'.cell? ⟨g, 0, none⟩ = some u ∧ w'.cell? ⟨g, 1, none⟩ = some v) ∧ Below w.heap.size w w') (k : Below w'.heap.size w' w'') : (w''.cell? ⟨g, 0, none⟩ = some u ∧ w''.cell? ⟨g, 1, none⟩ = some v) ∧ Below w.heap.size w w'' :=
  ⟨⟨(k.cell (p := ⟨g, 0, none⟩) (lt_of_cell h.1.1)).trans h.1.1, (k.cell (p := ⟨g, 1, none⟩) (lt_of_cell h.1.2)).trans h.1.2⟩, bl_any h.2 k⟩
theorem pair_facts (p wh : Int) (l : List ByteArray) : (∀ x ∈ l, ∀ y ∈ l, Op.bytesLess x.toList y.toList = true → lossB p wh x.data.toList = lossB p wh y.data.toList → (collide p wh (l.map (·.data.toList))).isSome = true ∧ Op.bytesLess x.toList (clA (collide p wh (l.map (·.data.toList)))).toList = false ∧ ((x.toList == (clA (collide p wh (l.map (·.data.toList)))).toList) = true → Op.bytesLess y.toList (clB (collide p wh (l.map (·.data.toList)))).toList = false)) ∧
    ((collide p wh (l.map (·.data.toList))).isSome = true → l.any (fun x => x.toList == (clA (collide p wh (l.map (·.data.toList)))).toList) = true ∧ l.any (fun x => x.toList == (clB (collide p wh (l.map (·.data.toList)))).toList) = true ∧ Op.bytesLess (clA (collide p wh (l.map (·.data.toList)))).toList (clB (collide p wh (l.map (·.data.toList)))).toList = true ∧ (lossB p wh (clA (collide p wh (l.map (·.data.toList)))).data.toList = lossB p wh (clB (collide p wh (l.map (·.data.toList)))).data.toList) ∧ ∀ m, (∀ x ∈ l, x.size ≤ m) → (clA (collide p wh (l.map (·.data.toList)))).size ≤ m ∧ (clB (collide p wh (l.map (·.data.toList)))).size ≤ m) ∧
    ((collide p wh (l.map (·.data.toList))).isSome = false → clA (collide p wh (l.map (·.data.toList))) = ⟨#[]⟩ ∧ clB (collide p wh (l.map (·.data.toList))) = ⟨#[]⟩) := by
  have h3 := collide_least p wh (l.map (·.data.toList))
  generalize collide p wh (l.map (·.data.toList)) = r at h3
  refine ⟨fun x hx y hy h1 h2 => ?_, fun hs => ?_, fun hs => ?_⟩
  · rw [bytesLess_eq, ByteArray.toList_eq, ByteArray.toList_eq] at h1
    have hc : Clash p wh (l.map (·.data.toList)) (x.data.toList, y.data.toList) := ⟨List.mem_map_of_mem hx, List.mem_map_of_mem hy, of_decide_eq_true h1, h2⟩
    cases r with
    | none => exact absurd hc (h3 _)
    | some c =>
      have hna := h3.2 _ hc
      refine ⟨rfl, ?_, fun h0 => ?_⟩
      · rw [bytesLess_eq]; exact decide_eq_false (fun h => hna (.inl (by rw [clA_list, ByteArray.toList_eq] at h; exact h)))
      · rw [bytesLess_eq]; exact decide_eq_false (fun h => hna (.inr ⟨by rw [clA_list, ByteArray.toList_eq, beq_iff_eq] at h0; exact h0, by rw [clB_list, ByteArray.toList_eq] at h; exact h⟩))
  · cases r with
    | none => cases hs
    | some c =>
      obtain ⟨⟨h1, h2, h4, h5⟩, _⟩ := h3
      obtain ⟨x, hx, ex⟩ := List.mem_map.1 h1
      obtain ⟨y, hy, ey⟩ := List.mem_map.1 h2
      refine ⟨List.any_eq_true.2 ⟨x, hx, ?_⟩, List.any_eq_true.2 ⟨y, hy, ?_⟩, ?_, h5, fun m hm => ⟨?_, ?_⟩⟩
      · rw [clA_list, ByteArray.toList_eq]; exact beq_iff_eq.2 ex
      · rw [clB_list, ByteArray.toList_eq]; exact beq_iff_eq.2 ey
      · rw [bytesLess_eq, clA_list, clB_list]; exact decide_eq_true h4
      · have e : (clA (some c)).size = x.size := by show c.1.toArray.size = x.data.size; rw [← ex]; try simp
        rw [e]; exact hm x hx
      · have e : (clB (some c)).size = y.size := by show c.2.toArray.size = y.data.size; rw [← ey]; try simp
        rw [e]; exact hm y hy
  · cases r with
    | none => exact ⟨rfl, rfl⟩
    | some c => cases hs
set_option maxRecDepth 100000 in
set_option maxHeartbeats 3200000 in
theorem pair14_any_0 (q : Int) (A : Option Addr) (n cap : Nat) (l : List ByteArray) (w : World) (hq : 0 ≤ q ∧ q ≤ 255) (hl : IsRows strCell 1 w w.heap.size A n l) :
    Calls Try.prog 4 #[.int .u8 q, .bool false, .slice A n cap] w fun e w' => e = .returned (.bool true) ∧ Below w.heap.size w w' := by
  by_cases h14 : 14 < n
  · have hd14 : decide ((14 : Int) < n) = true := decide_eq_true (by omega)
    go_enter Try.func4, Try.ntmps4
    go_wp2_with (go_at_call 7; refine (known14_any _).mono ?_; rintro e w1 ⟨rfl, hb1⟩)
    go_ret
    exact ⟨rfl, hb1⟩
  have hd14 : decide ((14 : Int) < n) = false := decide_eq_false (by omega)
  go_enter Try.func4, Try.ntmps4
  go_wp2_with (go_at_call 7; refine (known14_any _).mono ?_; rintro e w1 ⟨rfl, hb1⟩)
  go_loopw [7] (fun i wr => Below w.heap.size w wr ∧ ∃ k : Nat, k ≤ n ∧ i = .int .i64 k ∧ ∀ x ∈ l.take k, x.size ≤ 100) (fun i _ => n - (intOf i).toNat)
  case atStart => exact ⟨hb1, 0, by omega, rfl, fun x hx => by simp at hx⟩
  case round =>
    obtain ⟨hbw, k, hk, rfl, hshort⟩ := hrel
    have hll := hl.1
    by_cases hlt : k < n
    · have hdk : decide ((k : Int) < n) = true := decide_eq_true (by omega)
      have hk0 : (0 : Int) ≤ k := by omega
      have hk1 : (k : Int) < n := by omega
      obtain ⟨x, hx⟩ : ∃ x, l[k]? = some x := ⟨_, List.getElem?_eq_getElem (by omega)⟩
      obtain ⟨b, off, rfl, hgb, hrc⟩ := hl.2 (by omega)
      have e0 : wr.cell? ⟨b, off + k, none⟩ = some (.string x) := (hbw.cell (p := ⟨b, off + k, none⟩) hgb).trans (by have := hrc k x 0 _ hx rfl; simpa using this)
      by_cases h100 : 100 < x.size
      · have hd : decide ((100 : Int) < x.size) = true := decide_eq_true (by omega)
        go_wp2_with fail
        go_ret
        exact ⟨rfl, hbw⟩
      · have hd : decide ((100 : Int) < x.size) = false := decide_eq_false (by omega)
        go_wp2_with fail
        refine ⟨⟨hbw, k + 1, by omega, rfl, fun y hy => ?_⟩, by (simp only [intOf]; omega)⟩
        rw [List.take_add_one, hx] at hy
        simp only [Option.toList_some, List.mem_append, List.mem_singleton] at hy
        rcases hy with hy | rfl
        · exact hshort y hy
        · omega
    · have hdk : decide ((k : Int) < n) = false := decide_eq_false (by omega)
      obtain rfl : k = n := by omega
      rw [List.take_of_length_le (by omega)] at hshort
      have hsz : ∀ x ∈ l, x.size ≤ 1048576 := fun x hx => Nat.le_trans (hshort x hx) (by decide)
      have hwr := hbw.size
      have hF := pair_facts (1 + q % 4) 0 l
      have hC0 := fun W h => coll_any (1 + q % 4) 0 A k cap l W h hsz (by omega)
      generalize collide (1 + q % 4) 0 (l.map (·.data.toList)) = r at hC0 hF
      obtain ⟨ok, hok⟩ : ∃ ok, r.isSome = ok := ⟨_, rfl⟩
      obtain ⟨cA, hcA⟩ : ∃ cA, clA r = cA := ⟨_, rfl⟩
      obtain ⟨cB, hcB⟩ : ∃ cB, clB r = cB := ⟨_, rfl⟩
      rw [hok, hcA, hcB] at hC0 hF
      clear hok hcA hcB
      obtain ⟨hpr, hend, hnone⟩ := hF
      go_wp2_with (go_at_call 8; (with_reducible refine (hC0 _ ((hl.below hbw).more hbw.size)).mono ?_); rintro e w2 ⟨rfl, hb2⟩)
      clear hC0
      have hblk := Blk.new w2 26 #[.string cA, .string cB]
      have hbx := bl_alloc (bl_any hbw hb2) (.cells #[.string cA, .string cB] 26)
      generalize w2.alloc (.cells #[.string cA, .string cB] 26) = wX at hblk hbx ⊢
      go_loopw [12, 13, 14] (fun ia ib i wr => Below w.heap.size w wr ∧ Blk wr w2.heap.size 26 #[.string cA, .string cB] ∧ ∃ (i0 : Nat) (a0 b0 : Bool), i0 ≤ k ∧ i = .int .i64 i0 ∧ ia = .bool a0 ∧ ib = .bool b0 ∧ Hid (a0 = (l.take i0).any (fun x => x.toList == cA.toList) ∧ b0 = (l.take i0).any (fun x => x.toList == cB.toList))) (fun _ _ i _ => k - (intOf i).toNat)
      case atStart => exact ⟨hbx, hblk, 0, false, false, by omega, rfl, rfl, rfl, Lib.hid ⟨rfl, rfl⟩⟩
      case round =>
        obtain ⟨wo, rfl⟩ : ∃ wo, wo = wr := ⟨_, rfl⟩
        obtain ⟨hby, hblk1, i, a0, b0, hi, rfl, rfl, rfl, hab⟩ := hrel
        have hl1 := hblk1.lt
        have hwo := hby.size
        have c0 := hblk1.cell 0; have c1 := hblk1.cell 1
        simp at c0 c1
        by_cases hlti : i < k
        · have hdi : decide ((i : Int) < k) = true := decide_eq_true (by omega)
          have hi0 : (0 : Int) ≤ i := by omega
          have hi1 : (i : Int) < k := by omega
          obtain ⟨x, hx⟩ : ∃ x, l[i]? = some x := ⟨_, List.getElem?_eq_getElem (by omega)⟩
          have hxl := List.mem_of_getElem? hx
          obtain ⟨b, off, rfl, hgb, hrc⟩ := hl.2 (by omega)
          have e0 : wo.cell? ⟨b, off + i, none⟩ = some (.string x) := (hby.cell (p := ⟨b, off + i, none⟩) hgb).trans (by have := hrc i x 0 _ hx rfl; simpa using this)
          have hab2 : Hid ((a0 || x.toList == cA.toList) = (l.take (i + 1)).any (fun x => x.toList == cA.toList) ∧ (b0 || x.toList == cB.toList) = (l.take (i + 1)).any (fun x => x.toList == cB.toList)) := Lib.hid (by
            rw [List.take_add_one, hx]
            simp only [Option.toList_some, List.any_append, List.any_cons, List.any_nil, Bool.or_false]
            rw [← hab.out.1, ← hab.out.2]
            exact ⟨rfl, rfl⟩)
          clear hab
          obtain ⟨qa, hqa⟩ : ∃ qa, (x.toList == cA.toList) = qa := ⟨_, rfl⟩
          obtain ⟨qb, hqb⟩ : ∃ qb, (x.toList == cB.toList) = qb := ⟨_, rfl⟩
          rw [hqa, hqb] at hab2
          cases a0 <;> cases b0
          all_goals
            simp only [Bool.false_or, Bool.true_or] at hab2
            go_wp2_with fail
            go_quiet (fail)
            go_wp2_with fail
            have hby3 := bl_drewN hby nq
            have hblk3 := hblk1.drewN nq
            generalize wo.drewN nq = wp at hby3 hblk3 ⊢
            go_loopw [15] (fun j wr => Below w.heap.size w wr ∧ Blk wr w2.heap.size 26 #[.string cA, .string cB] ∧ ∃ (j0 : Nat), j0 ≤ k ∧ j = .int .i64 j0) (fun j _ => k - (intOf j).toNat)
            case atStart => exact ⟨hby3, hblk3, 0, by omega, rfl⟩
            case round =>
              obtain ⟨wy, rfl⟩ : ∃ wy, wy = wr := ⟨_, rfl⟩
              obtain ⟨hbz, hblk2, j, hj, rfl⟩ := hrel
              by_cases hltj : j < k
              · have hdj : decide ((j : Int) < k) = true := decide_eq_true (by omega)
                have hj0 : (0 : Int) ≤ j := by omega
                have hj1 : (j : Int) < k := by omega
                obtain ⟨y, hy⟩ : ∃ y, l[j]? = some y := ⟨_, List.getElem?_eq_getElem (by omega)⟩
                have hyl := List.mem_of_getElem? hy
                have e1 : wy.cell? ⟨b, off + j, none⟩ = some (.string y) := (hbz.cell (p := ⟨b, off + j, none⟩) hgb).trans (by have := hrc j y 0 _ hy rfl; simpa using this)
                have e2 : wy.cell? ⟨b, off + i, none⟩ = some (.string x) := (hbz.cell (p := ⟨b, off + i, none⟩) hgb).trans (by have := hrc i x 0 _ hx rfl; simpa using this)
                clear e0 c0 c1
                have c0 := hblk2.cell 0; have c1 := hblk2.cell 1
                simp at c0 c1
                cases hxy : Op.bytesLess x.toList y.toList
                · go_wp2_with fail
                  go_quiet (fail)
                  go_wp2_with fail
                  exact ⟨⟨bl_drewN hbz _, hblk2.drewN _, j + 1, by omega, rfl⟩, by (simp only [intOf]; omega)⟩
                · cases hls : (lossB (1 + q % 4) 0 x.data.toList == lossB (1 + q % 4) 0 y.data.toList)
                  · have hls2 : (lossB (1 + q % 4) 0 x.data.toList != lossB (1 + q % 4) 0 y.data.toList) = true := by rw [bne, hls]; rfl
                    go_wp2_with fail
                    go_quiet (fail)
                    go_wp2_with (first
                      | (go_at_call 11; with_reducible refine (name_any _ _ x _ (hsz x hxl)).mono ?_; rintro e w4 ⟨rfl, hb4⟩)
                      | (go_at_call 11; with_reducible refine (name_any _ _ y _ (hsz y hyl)).mono ?_; rintro e w5 ⟨rfl, hb5⟩))
                    exact ⟨⟨bl_any (bl_any (bl_drewN hbz _) hb4) hb5, ((hblk2.drewN _).below hb4 hblk2.lt).below hb5 (Nat.lt_of_lt_of_le hblk2.lt hb4.size), j + 1, by omega, rfl⟩, by (simp only [intOf]; omega)⟩
                  · have hls2 : (lossB (1 + q % 4) 0 x.data.toList != lossB (1 + q % 4) 0 y.data.toList) = false := by rw [bne, hls]; rfl
                    obtain ⟨rfl, hl1, hl2⟩ := hpr x hxl y hyl hxy (by rw [beq_iff_eq] at hls; exact hls)
                    rw [hqa] at hl2
                    have hdrop := hblk2
                    cases qa
                    all_goals
                      (try have hl3 := hl2 rfl)
                      clear hl2
                      go_wp2_with fail
                      go_quiet (fail)
                      go_wp2_with (first
                        | (go_at_call 11; with_reducible refine (name_any _ _ x _ (hsz x hxl)).mono ?_; rintro e w4 ⟨rfl, hb4⟩)
                        | (go_at_call 11; go_loud (with_reducible refine (name_any _ _ y _ (hsz y hyl)).mono ?_; rintro e w5 ⟨rfl, hb5⟩); have hblk5 := ((hblk2.drewN _).below hb4 hblk2.lt).below hb5 (Nat.lt_of_lt_of_le hblk2.lt hb4.size); have d0 := hblk5.cell 0; have d1 := hblk5.cell 1; simp at d0 d1))
                      exact ⟨⟨bl_any (bl_any (bl_drewN hbz _) hb4) hb5, hblk5, j + 1, by omega, rfl⟩, by (simp only [intOf]; omega)⟩
              · have hdj : decide ((j : Int) < k) = false := decide_eq_false (by omega)
                go_wp2_with fail
                exact ⟨⟨hbz, hblk2, i + 1, _, _, by omega, rfl, rfl, rfl, hab2⟩, by (simp only [intOf]; omega)⟩
        · have hdi : decide ((i : Int) < k) = false := decide_eq_false (by omega)
          obtain rfl : i = k := by omega
          rw [List.take_of_length_le (by omega)] at hab
          obtain ⟨ha, hb⟩ := hab.out
          cases ok
          · obtain ⟨rfl, rfl⟩ := hnone rfl
            have ec := eqClash
            clear ha hb hab hpr hend hnone
            go_wp2_with fail
            go_ret
            exact ⟨by first | rfl | exact ret_bool (by simp), hby⟩
          · obtain ⟨h1, h2, h3, h4, h5⟩ := hend rfl
            obtain ⟨s1, s2⟩ := h5 1048576 hsz
            rw [h1] at ha
            rw [h2] at hb
            subst ha; subst hb
            have h6 : (lossB (1 + q % 4) 0 cA.data.toList == lossB (1 + q % 4) 0 cB.data.toList) = true := beq_iff_eq.2 h4
            clear hab hpr hend hnone h1 h2 h4 h5
            go_wp2_with fail
            have hS0 : (wo.drew.cell? ⟨w2.heap.size, 0, none⟩ = some (.string cA) ∧ wo.drew.cell? ⟨w2.heap.size, 1, none⟩ = some (.string cB)) ∧ Below w.heap.size w wo.drew := ⟨⟨c0, c1⟩, hby.drew⟩
            clear c0 c1
            go_region_held3 (fun w' => (w'.cell? ⟨w2.heap.size, 0, none⟩ = some (.string cA) ∧ w'.cell? ⟨w2.heap.size, 1, none⟩ = some (.string cB)) ∧ Below w.heap.size w w') (first | assumption | exact hS0) (first
              | (go_at_call 11; with_reducible refine (name_any _ _ cA _ s1).mono ?_; rintro e w4 ⟨rfl, hb4⟩; have hK4 := keepS (by assumption) hb4)
              | (go_at_call 11; with_reducible refine (name_any _ _ cB _ s2).mono ?_; rintro e w5 ⟨rfl, hb5⟩; have hK5 := keepS (by assumption) hb5))
            all_goals
              rename_i hHeld
              obtain ⟨_, hbz⟩ := hHeld
              go_wp2_with fail
              go_ret
              exact ⟨by first | rfl | exact ret_bool (by simp), hbz⟩
set_option maxRecDepth 100000 in
set_option maxHeartbeats 3200000 in
theorem pair14_any_1 (q : Int) (A : Option Addr) (n cap : Nat) (l : List ByteArray) (w : World) (hq : 0 ≤ q ∧ q ≤ 255) (hl : IsRows strCell 1 w w.heap.size A n l) :
    Calls Try.prog 4 #[.int .u8 q, .bool true, .slice A n cap] w fun e w' => e = .returned (.bool true) ∧ Below w.heap.size w w' := by
  by_cases h14 : 14 < n
  · have hd14 : decide ((14 : Int) < n) = true := decide_eq_true (by omega)
    go_enter Try.func4, Try.ntmps4
    go_wp2_with (go_at_call 7; refine (known14_any _).mono ?_; rintro e w1 ⟨rfl, hb1⟩)
    go_ret
    exact ⟨rfl, hb1⟩
  have hd14 : decide ((14 : Int) < n) = false := decide_eq_false (by omega)
  go_enter Try.func4, Try.ntmps4
  go_wp2_with (go_at_call 7; refine (known14_any _).mono ?_; rintro e w1 ⟨rfl, hb1⟩)
  go_loopw [7] (fun i wr => Below w.heap.size w wr ∧ ∃ k : Nat, k ≤ n ∧ i = .int .i64 k ∧ ∀ x ∈ l.take k, x.size ≤ 100) (fun i _ => n - (intOf i).toNat)
  case atStart => exact ⟨hb1, 0, by omega, rfl, fun x hx => by simp at hx⟩
  case round =>
    obtain ⟨hbw, k, hk, rfl, hshort⟩ := hrel
    have hll := hl.1
    by_cases hlt : k < n
    · have hdk : decide ((k : Int) < n) = true := decide_eq_true (by omega)
      have hk0 : (0 : Int) ≤ k := by omega
      have hk1 : (k : Int) < n := by omega
      obtain ⟨x, hx⟩ : ∃ x, l[k]? = some x := ⟨_, List.getElem?_eq_getElem (by omega)⟩
      obtain ⟨b, off, rfl, hgb, hrc⟩ := hl.2 (by omega)
      have e0 : wr.cell? ⟨b, off + k, none⟩ = some (.string x) := (hbw.cell (p := ⟨b, off + k, none⟩) hgb).trans (by have := hrc k x 0 _ hx rfl; simpa using this)
      by_cases h100 : 100 < x.size
      · have hd : decide ((100 : Int) < x.size) = true := decide_eq_true (by omega)
        go_wp2_with fail
        go_ret
        exact ⟨rfl, hbw⟩
      · have hd : decide ((100 : Int) < x.size) = false := decide_eq_false (by omega)
        go_wp2_with fail
        refine ⟨⟨hbw, k + 1, by omega, rfl, fun y hy => ?_⟩, by (simp only [intOf]; omega)⟩
        rw [List.take_add_one, hx] at hy
        simp only [Option.toList_some, List.mem_append, List.mem_singleton] at hy
        rcases hy with hy | rfl
        · exact hshort y hy
        · omega
    · have hdk : decide ((k : Int) < n) = false := decide_eq_false (by omega)
      obtain rfl : k = n := by omega
      rw [List.take_of_length_le (by omega)] at hshort
      have hsz : ∀ x ∈ l, x.size ≤ 1048576 := fun x hx => Nat.le_trans (hshort x hx) (by decide)
      have hwr := hbw.size
      have hF := pair_facts (1 + q % 4) 1 l
      have hC0 := fun W h => coll_any (1 + q % 4) 1 A k cap l W h hsz (by omega)
      generalize collide (1 + q % 4) 1 (l.map (·.data.toList)) = r at hC0 hF
      obtain ⟨ok, hok⟩ : ∃ ok, r.isSome = ok := ⟨_, rfl⟩
      obtain ⟨cA, hcA⟩ : ∃ cA, clA r = cA := ⟨_, rfl⟩
      obtain ⟨cB, hcB⟩ : ∃ cB, clB r = cB := ⟨_, rfl⟩
      rw [hok, hcA, hcB] at hC0 hF
      clear hok hcA hcB
      obtain ⟨hpr, hend, hnone⟩ := hF
      go_wp2_with (go_at_call 8; (with_reducible refine (hC0 _ ((hl.below hbw).more hbw.size)).mono ?_); rintro e w2 ⟨rfl, hb2⟩)
      clear hC0
      have hblk := Blk.new w2 26 #[.string cA, .string cB]
      have hbx := bl_alloc (bl_any hbw hb2) (.cells #[.string cA, .string cB] 26)
      generalize w2.alloc (.cells #[.string cA, .string cB] 26) = wX at hblk hbx ⊢
      go_loopw [12, 13, 14] (fun ia ib i wr => Below w.heap.size w wr ∧ Blk wr w2.heap.size 26 #[.string cA, .string cB] ∧ ∃ (i0 : Nat) (a0 b0 : Bool), i0 ≤ k ∧ i = .int .i64 i0 ∧ ia = .bool a0 ∧ ib = .bool b0 ∧ Hid (a0 = (l.take i0).any (fun x => x.toList == cA.toList) ∧ b0 = (l.take i0).any (fun x => x.toList == cB.toList))) (fun _ _ i _ => k - (intOf i).toNat)
      case atStart => exact ⟨hbx, hblk, 0, false, false, by omega, rfl, rfl, rfl, Lib.hid ⟨rfl, rfl⟩⟩
      case round =>
        obtain ⟨wo, rfl⟩ : ∃ wo, wo = wr := ⟨_, rfl⟩
        obtain ⟨hby, hblk1, i, a0, b0, hi, rfl, rfl, rfl, hab⟩ := hrel
        have hl1 := hblk1.lt
        have hwo := hby.size
        have c0 := hblk1.cell 0; have c1 := hblk1.cell 1
        simp at c0 c1
        by_cases hlti : i < k
        · have hdi : decide ((i : Int) < k) = true := decide_eq_true (by omega)
          have hi0 : (0 : Int) ≤ i := by omega
          have hi1 : (i : Int) < k := by omega
          obtain ⟨x, hx⟩ : ∃ x, l[i]? = some x := ⟨_, List.getElem?_eq_getElem (by omega)⟩
          have hxl := List.mem_of_getElem? hx
          obtain ⟨b, off, rfl, hgb, hrc⟩ := hl.2 (by omega)
          have e0 : wo.cell? ⟨b, off + i, none⟩ = some (.string x) := (hby.cell (p := ⟨b, off + i, none⟩) hgb).trans (by have := hrc i x 0 _ hx rfl; simpa using this)
          have hab2 : Hid ((a0 || x.toList == cA.toList) = (l.take (i + 1)).any (fun x => x.toList == cA.toList) ∧ (b0 || x.toList == cB.toList) = (l.take (i + 1)).any (fun x => x.toList == cB.toList)) := Lib.hid (by
            rw [List.take_add_one, hx]
            simp only [Option.toList_some, List.any_append, List.any_cons, List.any_nil, Bool.or_false]
            rw [← hab.out.1, ← hab.out.2]
            exact ⟨rfl, rfl⟩)
          clear hab
          obtain ⟨qa, hqa⟩ : ∃ qa, (x.toList == cA.toList) = qa := ⟨_, rfl⟩
          obtain ⟨qb, hqb⟩ : ∃ qb, (x.toList == cB.toList) = qb := ⟨_, rfl⟩
          rw [hqa, hqb] at hab2
          cases a0 <;> cases b0
          all_goals
            simp only [Bool.false_or, Bool.true_or] at hab2
            go_wp2_with fail
            go_quiet (fail)
            go_wp2_with fail
            have hby3 := bl_drewN hby nq
            have hblk3 := hblk1.drewN nq
            generalize wo.drewN nq = wp at hby3 hblk3 ⊢
            go_loopw [15] (fun j wr => Below w.heap.size w wr ∧ Blk wr w2.heap.size 26 #[.string cA, .string cB] ∧ ∃ (j0 : Nat), j0 ≤ k ∧ j = .int .i64 j0) (fun j _ => k - (intOf j).toNat)
            case atStart => exact ⟨hby3, hblk3, 0, by omega, rfl⟩
            case round =>
              obtain ⟨wy, rfl⟩ : ∃ wy, wy = wr := ⟨_, rfl⟩
              obtain ⟨hbz, hblk2, j, hj, rfl⟩ := hrel
              by_cases hltj : j < k
              · have hdj : decide ((j : Int) < k) = true := decide_eq_true (by omega)
                have hj0 : (0 : Int) ≤ j := by omega
                have hj1 : (j : Int) < k := by omega
                obtain ⟨y, hy⟩ : ∃ y, l[j]? = some y := ⟨_, List.getElem?_eq_getElem (by omega)⟩
                have hyl := List.mem_of_getElem? hy
                have e1 : wy.cell? ⟨b, off + j, none⟩ = some (.string y) := (hbz.cell (p := ⟨b, off + j, none⟩) hgb).trans (by have := hrc j y 0 _ hy rfl; simpa using this)
                have e2 : wy.cell? ⟨b, off + i, none⟩ = some (.string x) := (hbz.cell (p := ⟨b, off + i, none⟩) hgb).trans (by have := hrc i x 0 _ hx rfl; simpa using this)
                clear e0 c0 c1
                have c0 := hblk2.cell 0; have c1 := hblk2.cell 1
                simp at c0 c1
                cases hxy : Op.bytesLess x.toList y.toList
                · go_wp2_with fail
                  go_quiet (fail)
                  go_wp2_with fail
                  exact ⟨⟨bl_drewN hbz _, hblk2.drewN _, j + 1, by omega, rfl⟩, by (simp only [intOf]; omega)⟩
                · cases hls : (lossB (1 + q % 4) 1 x.data.toList == lossB (1 + q % 4) 1 y.data.toList)
                  · have hls2 : (lossB (1 + q % 4) 1 x.data.toList != lossB (1 + q % 4) 1 y.data.toList) = true := by rw [bne, hls]; rfl
                    go_wp2_with fail
                    go_quiet (fail)
                    go_wp2_with (first
                      | (go_at_call 11; with_reducible refine (name_any _ _ x _ (hsz x hxl)).mono ?_; rintro e w4 ⟨rfl, hb4⟩)
                      | (go_at_call 11; with_reducible refine (name_any _ _ y _ (hsz y hyl)).mono ?_; rintro e w5 ⟨rfl, hb5⟩))
                    exact ⟨⟨bl_any (bl_any (bl_drewN hbz _) hb4) hb5, ((hblk2.drewN _).below hb4 hblk2.lt).below hb5 (Nat.lt_of_lt_of_le hblk2.lt hb4.size), j + 1, by omega, rfl⟩, by (simp only [intOf]; omega)⟩
                  · have hls2 : (lossB (1 + q % 4) 1 x.data.toList != lossB (1 + q % 4) 1 y.data.toList) = false := by rw [bne, hls]; rfl
                    obtain ⟨rfl, hl1, hl2⟩ := hpr x hxl y hyl hxy (by rw [beq_iff_eq] at hls; exact hls)
                    rw [hqa] at hl2
                    have hdrop := hblk2
                    cases qa
                    all_goals
                      (try have hl3 := hl2 rfl)
                      clear hl2
                      go_wp2_with fail
                      go_quiet (fail)
                      go_wp2_with (first
                        | (go_at_call 11; with_reducible refine (name_any _ _ x _ (hsz x hxl)).mono ?_; rintro e w4 ⟨rfl, hb4⟩)
                        | (go_at_call 11; go_loud (with_reducible refine (name_any _ _ y _ (hsz y hyl)).mono ?_; rintro e w5 ⟨rfl, hb5⟩); have hblk5 := ((hblk2.drewN _).below hb4 hblk2.lt).below hb5 (Nat.lt_of_lt_of_le hblk2.lt hb4.size); have d0 := hblk5.cell 0; have d1 := hblk5.cell 1; simp at d0 d1))
                      exact ⟨⟨bl_any (bl_any (bl_drewN hbz _) hb4) hb5, hblk5, j + 1, by omega, rfl⟩, by (simp only [intOf]; omega)⟩
              · have hdj : decide ((j : Int) < k) = false := decide_eq_false (by omega)
                go_wp2_with fail
                exact ⟨⟨hbz, hblk2, i + 1, _, _, by omega, rfl, rfl, rfl, hab2⟩, by (simp only [intOf]; omega)⟩
        · have hdi : decide ((i : Int) < k) = false := decide_eq_false (by omega)
          obtain rfl : i = k := by omega
          rw [List.take_of_length_le (by omega)] at hab
          obtain ⟨ha, hb⟩ := hab.out
          cases ok
          · obtain ⟨rfl, rfl⟩ := hnone rfl
            have ec := eqClash
            clear ha hb hab hpr hend hnone
            go_wp2_with fail
            go_ret
            exact ⟨by first | rfl | exact ret_bool (by simp), hby⟩
          · obtain ⟨h1, h2, h3, h4, h5⟩ := hend rfl
            obtain ⟨s1, s2⟩ := h5 1048576 hsz
            rw [h1] at ha
            rw [h2] at hb
            subst ha; subst hb
            have h6 : (lossB (1 + q % 4) 1 cA.data.toList == lossB (1 + q % 4) 1 cB.data.toList) = true := beq_iff_eq.2 h4
            clear hab hpr hend hnone h1 h2 h4 h5
            go_wp2_with fail
            have hS0 : (wo.drew.cell? ⟨w2.heap.size, 0, none⟩ = some (.string cA) ∧ wo.drew.cell? ⟨w2.heap.size, 1, none⟩ = some (.string cB)) ∧ Below w.heap.size w wo.drew := ⟨⟨c0, c1⟩, hby.drew⟩
            clear c0 c1
            go_region_held3 (fun w' => (w'.cell? ⟨w2.heap.size, 0, none⟩ = some (.string cA) ∧ w'.cell? ⟨w2.heap.size, 1, none⟩ = some (.string cB)) ∧ Below w.heap.size w w') (first | assumption | exact hS0) (first
              | (go_at_call 11; with_reducible refine (name_any _ _ cA _ s1).mono ?_; rintro e w4 ⟨rfl, hb4⟩; have hK4 := keepS (by assumption) hb4)
              | (go_at_call 11; with_reducible refine (name_any _ _ cB _ s2).mono ?_; rintro e w5 ⟨rfl, hb5⟩; have hK5 := keepS (by assumption) hb5))
            all_goals
              rename_i hHeld
              obtain ⟨_, hbz⟩ := hHeld
              go_wp2_with fail
              go_ret
              exact ⟨by first | rfl | exact ret_bool (by simp), hbz⟩
theorem pair14_any (q : Int) (d : Bool) (A : Option Addr) (n cap : Nat) (l : List ByteArray) (w : World) (hq : 0 ≤ q ∧ q ≤ 255) (hl : IsRows strCell 1 w w.heap.size A n l) :
    Calls Try.prog 4 #[.int .u8 q, .bool d, .slice A n cap] w fun e w' => e = .returned (.bool true) ∧ Below w.heap.size w w' := by
  cases d
  · exact pair14_any_0 q A n cap l w hq hl
  · exact pair14_any_1 q A n cap l w hq hl
end Go.Proofs.Ytjdanidnmpigkaa
