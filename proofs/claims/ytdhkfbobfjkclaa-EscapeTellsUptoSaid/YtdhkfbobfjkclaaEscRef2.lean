/- The walks of the reference's hex, Undo, Back. -/
import Derived.Test.YtdhkfbobfjkclaaEscRef
import Derived.Test.YtdhkfbobfjkclaaEsc3
import Derived.Laws.IdiomStrings
import Derived.Laws.BytesArg
import Derived.Deep.AppendLies
import Derived.Deep.RegionHeld3
namespace Go.Proofs.Ytdhkfbobfjkclaa
open Go.RowKit
theorem blk_newQ {W : World} {T : TypeId} {cs : Array Value} {b : Nat} (h : b = W.heap.size) : (W.alloc (.cells cs T)).heap[b]? = some (.cells cs T (0, 0)) := by subst h; exact heap_alloc_new W _
theorem hexV_is (x : UInt8) : hexV x = if 48 ≤ (x.toNat : Int) ∧ (x.toNat : Int) ≤ 57 then (x.toNat : Int) - 48 else if 97 ≤ (x.toNat : Int) ∧ (x.toNat : Int) ≤ 102 then (x.toNat : Int) - 97 + 10 else -1 := by
  have : ∀ n : Nat, n < 256 → hexV (UInt8.ofNat n) = if 48 ≤ (n : Int) ∧ (n : Int) ≤ 57 then (n : Int) - 48 else if 97 ≤ (n : Int) ∧ (n : Int) ≤ 102 then (n : Int) - 97 + 10 else -1 := by decide +kernel
  have h := this x.toNat x.toNat_lt
  rwa [UInt8.ofNat_toNat] at h
set_option maxHeartbeats 800000 in
theorem refHex_any (x : UInt8) (w : World) :
    Calls Try.prog 52 #[.int .u8 (x.toNat : Int)] w fun e w' => e = .returned (.int .i64 (hexV x)) ∧ w = w' := by
  have hx := x.toNat_lt
  rw [hexV_is]
  generalize (x.toNat : Int) = c at *
  by_cases h1 : 48 ≤ c ∧ c ≤ 57
  · rw [if_pos h1]
    have d1 : decide (48 ≤ c ∧ c ≤ 57) = true := decide_eq_true h1
    go_enter Try.func52, Try.ntmps52
    go_wp2_with (go_at_call 42; refine (refDigit_any _ _).mono ?_; rintro e w1 ⟨rfl, rfl⟩; rw [d1])
    all_goals go_ret
    all_goals refine ⟨ret_int ?_, rfl⟩
    all_goals first | rfl | (simp [*]; done) | omega | (split <;> omega)
  · rw [if_neg h1]
    have d1 : decide (48 ≤ c ∧ c ≤ 57) = false := decide_eq_false h1
    go_enter Try.func52, Try.ntmps52
    go_wp2_with (go_at_call 42; refine (refDigit_any _ _).mono ?_; rintro e w1 ⟨rfl, rfl⟩; rw [d1])
    all_goals go_ret
    all_goals refine ⟨ret_int ?_, rfl⟩
    all_goals first | rfl | (simp [*]; done) | omega | (split <;> omega)
theorem conv_own {w : World} {base : Nat} {v : Value} {acc : List UInt8} (h : w.ownsRow base 5 1 v acc.length (Lib.byteCells acc)) :
    (convert 27 9 v).run Try.prog w = .ok (.string ⟨acc.toArray⟩) w := by
  have h1 : Try.prog.underlying 27 = some (.slice 5) := by kernel_rfl
  have h2 : Try.prog.underlying 5 = some (.int .u8) := by kernel_rfl
  have h3 : Try.prog.underlying 9 = some .string := by kernel_rfl
  obtain ⟨hl, ⟨rfl, h0⟩ | ⟨g, cap, cur, rfl, hg, hh, hnc, hcm, hcs, htk⟩⟩ := h
  · have : acc = [] := List.length_eq_zero_iff.1 h0
    subst this
    exact run_convert_bytes_nil w 27 5 h1 h2 0 0 9 h3
  · refine run_convert_bytes_back w _ _ _ _ _ acc h1 h2 h3 fun j hj => ?_
    have h4 : (⟨g, 0, none⟩ : Addr).add j = ⟨g, j, none⟩ := by unfold Addr.add; split <;> simp_all
    rw [h4, cell_of_row w g j cur _ (0, 0) hh]
    have h5 : (cur.toList.take (acc.length * 1))[j]? = some (.int .u8 (acc[j].toNat : Int)) := by rw [htk]; simp [Lib.byteCells, hj]
    rw [List.getElem?_take] at h5
    split at h5
    · rw [← Array.getElem?_toList]; exact h5
    · cases h5
theorem drop_at (s : ByteArray) (k : Nat) (h : k < s.size) : s.data.toList.drop k = (s[k]'h) :: s.data.toList.drop (k + 1) := by
  rw [List.drop_eq_getElem_cons (by simpa using h)]; rfl
theorem undo_keep (s : ByteArray) (k : Nat) (h : k < s.size) (hm : markB s.data.toList k = false) : undoB (s.data.toList.drop k) = (undoB (s.data.toList.drop (k + 1))).map ((s[k]'h) :: ·) := by
  unfold markB at hm
  rw [drop_at s k h] at hm ⊢
  rw [undoB_cons, if_neg (by rw [hm]; exact Bool.false_ne_true)]
theorem undo_mark (s : ByteArray) (k : Nat) (h : k < s.size) (hm : markB s.data.toList k = true) : undoB (s.data.toList.drop k) = if byteOk (s.data.toList.drop (k + 2)) = true then (undoB (s.data.toList.drop (k + 4))).map (byteV (s.data.toList.drop (k + 2)) :: ·) else none := by
  unfold markB at hm
  rw [drop_at s k h] at hm ⊢
  rw [undoB_cons, if_pos hm, List.drop_drop, List.drop_drop]
theorem byteOk_short (s : ByteArray) (k : Nat) (h : s.size ≤ k + 3) : byteOk (s.data.toList.drop (k + 2)) = false := by
  unfold byteOk; rw [decide_eq_false (by simp; omega)]; rfl
theorem byteOk_at (s : ByteArray) (k : Nat) (h : k + 3 < s.size) : byteOk (s.data.toList.drop (k + 2)) = (decide ((0 : Int) ≤ hexV (s[k + 2]'(by omega))) && decide ((0 : Int) ≤ hexV (s[k + 3]'h))) ∧ byteV (s.data.toList.drop (k + 2)) = UInt8.ofNat (hexV (s[k + 2]'(by omega)) * (16 : Int) + hexV (s[k + 3]'h) : Int).toNat := by
  rw [drop_at s (k + 2) (by omega), drop_at s (k + 2 + 1) (by omega)]
  constructor
  · unfold byteOk; simp
  · unfold byteV; simp
theorem own_drewN {base : Nat} {e : TypeId} {size : Nat} {v : Value} {n : Nat} {xs : List Value} {w : World} (h : w.ownsRow base e size v n xs) (k : Nat) : (w.drewN k).ownsRow base e size v n xs := h
set_option maxRecDepth 100000 in
set_option maxHeartbeats 1600000 in
theorem refUndo_any (s : ByteArray) (w : World) (hs : s.size ≤ 1048576) :
    Calls Try.prog 36 #[.string s] w fun e w' => e = .returned (.tuple #[.string (undoS s.data.toList), .bool (undoB s.data.toList).isSome]) ∧ Below w.heap.size w w' := by
  obtain ⟨i0, hi0, hz0, hz1, hz2⟩ := info_parts Try.infoByte
  have hu8 : Try.prog.underlying 27 = some (.slice 5) := by kernel_rfl
  go_enter Try.func36, Try.ntmps36
  go_wp2_with fail
  go_loopw [4, 5] (fun o i wr => Below w.heap.size w wr ∧ ∃ (k : Nat) (acc : List UInt8), k ≤ s.size ∧ i = .int .i64 k ∧ acc.length ≤ k ∧ wr.ownsRow w.heap.size 5 1 o acc.length (Lib.byteCells acc) ∧ undoB s.data.toList = (undoB (s.data.toList.drop k)).map (acc ++ ·)) (fun _ i _ => s.size - (intOf i).toNat)
  case atStart => exact ⟨Below.refl _ _, 0, [], by omega, rfl, by simp, World.ownsRow_nil _ _ _ _, by (rw [List.drop_zero]; cases undoB s.data.toList <;> simp)⟩
  case round =>
    obtain ⟨hbx, k, acc, hk, rfl, hak, hown, hun⟩ := hrel
    have hwr := hbx.size
    by_cases hlt : k < s.size
    · have hdk : decide ((k : Int) < s.size) = true := decide_eq_true (by omega)
      have hk0 : (0 : Int) ≤ k := by omega
      have hk1 : (k : Int) < s.size := by omega
      have hmk := mark_at s k hlt
      cases c1 : (((s[k]'hlt).toNat : Int) == 95)
      · have b1 : (((s[k]'hlt).toNat : Int) != 95) = true := by (rw [bne, c1]; rfl)
        rw [c1] at hmk
        go_wp2_with (at_builtin; refine wpList_append_lies _ (by rfl) _ _ _ (by rfl) w.heap.size 5 i0 _ 1 1 hu8 hi0 hz0 hz1 hz2 rfl (by omega) _ acc.length (Lib.byteCells acc) (by rfl) (hown.alloc _) ⟨wr.heap.size, 0, none⟩ 1 1 _ (by rfl) (by rfl) (World.news_of_block (heap_alloc_new wr _)) (by simp [Value.oneCell']) (by omega) (by simp [maxLen]; omega) (by omega) (by simp; omega) (wr.heap.size + 1) (by simp) ?_; intro gg capg w4 hown4 hgrow hat hlt4)
        exact ⟨⟨((bl_alloc hbx _).grown hgrow (by simp; omega) (fun j e => (hown.lt _ e).1)), k + 1, acc ++ [s[k]'hlt], by omega, rfl, by (simp; omega), by (rw [byteCells_app, List.length_append]; exact hown4), by (rw [hun, undo_keep s k hlt hmk]; cases undoB (s.data.toList.drop (k + 1)) <;> simp)⟩, by (simp only [intOf]; omega)⟩
      · have b1 : (((s[k]'hlt).toNat : Int) != 95) = false := by (rw [bne, c1]; rfl)
        by_cases h1 : k + 1 < s.size
        · have hd1 : decide ((s.size : Int) ≤ (k : Int) + 1) = false := decide_eq_false (by omega)
          have hk2 : (k : Int) + 1 < s.size := by omega
          have hk5 : (0 : Int) ≤ (k : Int) + 1 := by omega
          rw [c1, dif_pos h1] at hmk
          cases c2 : (((s[k + 1]'h1).toNat : Int) == 120)
          · have b2 : (((s[k + 1]'h1).toNat : Int) != 120) = true := by (rw [bne, c2]; rfl)
            rw [c2] at hmk
            go_wp2_with (at_builtin; refine wpList_append_lies _ (by rfl) _ _ _ (by rfl) w.heap.size 5 i0 _ 1 1 hu8 hi0 hz0 hz1 hz2 rfl (by omega) _ acc.length (Lib.byteCells acc) (by rfl) (hown.alloc _) ⟨wr.heap.size, 0, none⟩ 1 1 _ (by rfl) (by rfl) (World.news_of_block (heap_alloc_new wr _)) (by simp [Value.oneCell']) (by omega) (by simp [maxLen]; omega) (by omega) (by simp; omega) (wr.heap.size + 1) (by simp) ?_; intro gg capg w4 hown4 hgrow hat hlt4)
            exact ⟨⟨((bl_alloc hbx _).grown hgrow (by simp; omega) (fun j e => (hown.lt _ e).1)), k + 1, acc ++ [s[k]'hlt], by omega, rfl, by (simp; omega), by (rw [byteCells_app, List.length_append]; exact hown4), by (rw [hun, undo_keep s k hlt hmk]; cases undoB (s.data.toList.drop (k + 1)) <;> simp)⟩, by (simp only [intOf]; omega)⟩
          · have b2 : (((s[k + 1]'h1).toNat : Int) != 120) = false := by (rw [bne, c2]; rfl)
            rw [c2] at hmk
            have hum := undo_mark s k hlt hmk
            by_cases h3 : k + 3 < s.size
            · have hd3 : decide ((s.size : Int) ≤ (k : Int) + 3) = false := decide_eq_false (by omega)
              have h2 : k + 2 < s.size := by omega
              obtain ⟨hbo, hbv⟩ := byteOk_at s k h3
              have g2 := hexV_lt (s[k + 2]'h2)
              have g3 := hexV_lt (s[k + 3]'h3)
              have hA := refHex_any (s[k + 2]'h2)
              have hB := refHex_any (s[k + 3]'h3)
              have hA' : ∀ (w : World) (h : ((k : Int) + 2).toNat < s.size), Calls Try.prog 52 #[.int .u8 ((s[((k : Int) + 2).toNat]'h).toNat : Int)] w fun e w' => e = .returned (.int .i64 (hexV (s[k + 2]'h2))) ∧ w = w' := fun w h => hA w
              have hB' : ∀ (w : World) (h : ((k : Int) + 3).toNat < s.size), Calls Try.prog 52 #[.int .u8 ((s[((k : Int) + 3).toNat]'h).toNat : Int)] w fun e w' => e = .returned (.int .i64 (hexV (s[k + 3]'h3))) ∧ w = w' := fun w h => hB w
              generalize hexV (s[k + 2]'h2) = a at *
              generalize hexV (s[k + 3]'h3) = b at *
              have hk6 : (0 : Int) ≤ (k : Int) + 2 := by omega
              have hk7 : (k : Int) + 2 < s.size := by omega
              have hk8 : (0 : Int) ≤ (k : Int) + 3 := by omega
              have hk9 : (k : Int) + 3 < s.size := by omega
              have hk67 : (0 : Int) ≤ (k : Int) + 2 ∧ (k : Int) + 2 < s.size := ⟨hk6, hk7⟩
              have hk89 : (0 : Int) ≤ (k : Int) + 3 ∧ (k : Int) + 3 < s.size := ⟨hk8, hk9⟩
              have w2 : IntKind.i64.wrap ((k : Int) + 2) = k + 2 := IntWalk.i64_in _ (by omega)
              have w3 : IntKind.i64.wrap ((k : Int) + 3) = k + 3 := IntWalk.i64_in _ (by omega)
              by_cases ha : a < 0
              · have da : decide (a < 0) = true := decide_eq_true ha
                have hno : undoB s.data.toList = none := by (rw [hun, hum, hbo, decide_eq_false (show ¬ (0 : Int) ≤ a by omega)]; rfl)
                go_wp2_with (first
                  | (go_at_call 52; with_reducible refine (hA _).mono ?_; rintro e w3 ⟨rfl, rfl⟩)
                  | (go_at_call 52; with_reducible refine (hB _).mono ?_; rintro e w3 ⟨rfl, rfl⟩))
                go_ret2
                exact ⟨by (unfold undoS; rw [hno]; rfl), hbx⟩
              · have da : decide (a < 0) = false := decide_eq_false ha
                by_cases hb : b < 0
                · have db : decide (b < 0) = true := decide_eq_true hb
                  have hno : undoB s.data.toList = none := by (rw [hun, hum, hbo, decide_eq_false (show ¬ (0 : Int) ≤ b by omega), Bool.and_false]; rfl)
                  go_wp2_with (first
                  | (go_at_call 52; with_reducible refine (hA _).mono ?_; rintro e w3 ⟨rfl, rfl⟩)
                  | (go_at_call 52; with_reducible refine (hB _).mono ?_; rintro e w3 ⟨rfl, rfl⟩))
                  go_ret2
                  exact ⟨by (unfold undoS; rw [hno]; rfl), hbx⟩
                · have db : decide (b < 0) = false := decide_eq_false hb
                  have e16 : ((UInt8.ofNat (a * (16 : Int) + b).toNat).toNat : Int) = 16 * a + b := by (rw [UInt8.toNat_ofNat']; omega)
                  rw [decide_eq_true (show (0 : Int) ≤ a by omega), decide_eq_true (show (0 : Int) ≤ b by omega)] at hbo
                  rw [hbo, if_pos (by rfl)] at hum
                  go_wp2_with (first
                  | (go_at_call 52; with_reducible refine (hA _).mono ?_; rintro e w3 ⟨rfl, rfl⟩)
                  | (go_at_call 52; with_reducible refine (hB _).mono ?_; rintro e w3 ⟨rfl, rfl⟩))
                  go_region_held3 (fun _ => True) (trivial) (first
                    | (go_at_call 52; with_reducible refine (hA' _ _).mono ?_; rintro e w3 ⟨rfl, rfl⟩)
                    | (go_at_call 52; with_reducible refine (hB' _ _).mono ?_; rintro e w3 ⟨rfl, rfl⟩)
                    | (refine step_append_lies _ (by rfl) _ _ _ (by rfl) w.heap.size 5 i0 _ 1 1 hu8 hi0 hz0 hz1 hz2 rfl (by omega) _ acc.length (Lib.byteCells acc) (by rfl) (by first | exact hown.alloc _ | exact hown.drew.alloc _ | exact (hown.alloc _).drew | exact (hown.drew.alloc _).drew) ⟨wr.heap.size, 0, none⟩ 1 1 _ (by rfl) (by rfl) (World.news_of_block (heap_alloc_new wr.drew _)) (by simp [Value.oneCell']) (by omega) (by simp [maxLen]; omega) (by omega) (by simp; omega) (wr.heap.size + 1) (by simp) ?_; intro gg capg w4 hown4 hgrow hat hlt4))
                  all_goals
                    go_wp2_with fail
                    have hq : IntKind.u8.wrap (IntKind.i64.wrap (IntKind.i64.wrap (16 * a) + b)) = ((byteV (s.data.toList.drop (k + 2))).toNat : Int) := by
                      (rw [hbv, e16, IntWalk.i64_in (16 * a) (by omega), IntWalk.i64_in (16 * a + b) (by omega)]; simp [IntKind.wrap, IntKind.bits, IntKind.signed]; omega)
                    rw [hq] at hown4
                    exact ⟨⟨(Below.drew (bl_alloc hbx _)).grown hgrow (by simp; omega) (fun j e => (hown.lt _ e).1), k + 4, acc ++ [byteV (s.data.toList.drop (k + 2))], by omega, congrArg (Value.int .i64) (by omega), by (simp; omega), by (rw [byteCells_app, List.length_append]; exact hown4), by (rw [hun, hum]; cases undoB (s.data.toList.drop (k + 4)) <;> simp)⟩, by (simp only [intOf]; omega)⟩
            · have hd3 : decide ((s.size : Int) ≤ (k : Int) + 3) = true := decide_eq_true (by omega)
              have hno : undoB s.data.toList = none := by (rw [hun, hum, byteOk_short s k (by omega)]; rfl)
              go_wp2_with fail
              go_ret2
              exact ⟨by (unfold undoS; rw [hno]; rfl), hbx⟩
        · have hd1 : decide ((s.size : Int) ≤ (k : Int) + 1) = true := decide_eq_true (by omega)
          rw [c1, dif_neg h1] at hmk
          go_wp2_with (at_builtin; refine wpList_append_lies _ (by rfl) _ _ _ (by rfl) w.heap.size 5 i0 _ 1 1 hu8 hi0 hz0 hz1 hz2 rfl (by omega) _ acc.length (Lib.byteCells acc) (by rfl) (hown.alloc _) ⟨wr.heap.size, 0, none⟩ 1 1 _ (by rfl) (by rfl) (World.news_of_block (heap_alloc_new wr _)) (by simp [Value.oneCell']) (by omega) (by simp [maxLen]; omega) (by omega) (by simp; omega) (wr.heap.size + 1) (by simp) ?_; intro gg capg w4 hown4 hgrow hat hlt4)
          exact ⟨⟨((bl_alloc hbx _).grown hgrow (by simp; omega) (fun j e => (hown.lt _ e).1)), k + 1, acc ++ [s[k]'hlt], by omega, rfl, by (simp; omega), by (rw [byteCells_app, List.length_append]; exact hown4), by (rw [hun, undo_keep s k hlt hmk]; cases undoB (s.data.toList.drop (k + 1)) <;> simp)⟩, by (simp only [intOf]; omega)⟩
    · have hdk : decide ((k : Int) < s.size) = false := decide_eq_false (by omega)
      obtain rfl : k = s.size := by omega
      have hcv := conv_own hown
      have hsome : undoB s.data.toList = some acc := by (rw [hun, List.drop_eq_nil_of_le (by simp)]; simp [undoB_nil])
      go_wp2_with fail
      go_ret2
      exact ⟨by (unfold undoS; rw [hsome]; rfl), hbx⟩
end Go.Proofs.Ytdhkfbobfjkclaa
