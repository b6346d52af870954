/- The reference's numbers: whole ones, as they are printed. -/
import Derived.Test.YtdngieihlcknmaaNum1
import Derived.Test.YtdngieihlcknmaaScanD
import Derived.Test.YtdngieihlcknmaaLineH
import Derived.Test.YtdngieihlcknmaaLineA
import Derived.Deep.CutBlock
import Derived.Deep.CutRange
namespace Go.Proofs.Ytdngieihlcknmaa
set_option linter.unusedVariables false
set_option linter.unusedSimpArgs false
open Go.RowKit
set_option maxHeartbeats 1600000 in
theorem amount_any (n : Nat) (hn : n ≤ 9223372036854775807) (w : World) :
    Calls Try.prog 53 #[.int .i64 (n : Int)] w fun e w' => BytesE (digL n) e w' ∧ Below w.heap.size w w' := by
  have kD := fun W => digits_any n (by omega) W
  have hd : decide ((n : Int) < 0) = false := decide_eq_false (by omega)
  have hw : IntKind.u64.wrap (n : Int) = n := by
    unfold IntKind.wrap; simp [IntKind.bits, IntKind.signed]; omega
  go_enter Try.func53, Try.ntmps53
  go_wp2_with (go_at_call 74; refine (kD _).mono ?_; rintro e w1 ⟨⟨B, d, rfl, h1, h2, h3⟩, hb1⟩)
  go_ret
  exact ⟨⟨B, d, rfl, h1, h2, h3⟩, hb1⟩
set_option maxHeartbeats 1600000 in
theorem good0_any (m : Nat) (hm : m ≤ 9223372036854775807) (w : World) :
    Calls Try.prog 54 #[.agg #[.int .i64 (m : Int), .int .i64 0]] w fun e w' => e = .returned (.bool true) ∧ Below w.heap.size w w' := by
  have h1 : ((m : Int) != -9223372036854775808) = true := by rw [bne_iff_ne]; omega
  go_enter Try.func54, Try.ntmps54
  go_wp2_with fail
  go_ret
  exact ⟨rfl, (Below.refl _ _).alloc (Nat.le_refl _) _⟩
set_option maxHeartbeats 1600000 in
theorem decimal0_any (A : Option Addr) (c : Nat) (l : List UInt8) (w : World) (h : Bts w A l.length l) (hl : l.length ≤ 18) (hc : l.length ≤ c) (hc2 : c ≤ 9223372036854775807) (h9 : ∀ x ∈ l, x.toNat ≤ 9) (h0 : ∀ x, l.head? = some x → x ≠ 0) :
    Calls Try.prog 52 #[.bool false, .slice A l.length c, .int .i64 0] w fun e w' => e = .returned (.tuple #[.agg #[.int .i64 (numL l : Int), .int .i64 0], .bool true]) ∧ Below w.heap.size w w' := by
  have kT := fun W h => trim_stays A c l W h hc hc2 h0
  have kW := fun W h => within_short A c l W h hl h9
  have hb0 : Below w.heap.size w (w.alloc (.cells #[.int .i64 0, .int .i64 0] 73)) := (Below.refl _ _).alloc (Nat.le_refl _) _
  have h1 := h.below hb0
  have hB := Blk.new w 73 #[.int .i64 0, .int .i64 0]
  by_cases hz : l.length = 0
  · obtain rfl : l = [] := List.length_eq_zero_iff.1 hz
    have hN : numL [] = 0 := rfl
    rw [hN]
    go_enter Try.func52, Try.ntmps52
    go_wp2_with (go_at_call 72; refine (kT _ h1).mono ?_; rintro e w1 ⟨rfl, hw1⟩; rw [hw1]; clear hw1 w1)
    refine bodyPost_ret (v := .tuple #[.agg #[.int .i64 ((0 : Nat) : Int), .int .i64 0], .bool true]) (by simp [results, Try.results52, go_sem]) rfl ⟨rfl, ?_⟩
    exact (Below.refl _ _).alloc (Nat.le_refl _) _
  · have hq : ((l.length : Int) == 0) = false := by rw [beq_eq_false_iff_ne]; omega
    generalize numL l = M at kW
    generalize l.length = n at kT kW hq h1
    go_enter Try.func52, Try.ntmps52
    go_wp2_with (go_at_call 72; refine (kT _ h1).mono ?_; rintro e w1 ⟨rfl, hw1⟩; rw [hw1]; clear hw1 w1)
    refine wp_loop_rounds 1 ?_
    rw [rounds_succ]
    go_wp2_with (go_at_call 73; refine (kW _ h1).mono ?_; rintro e w2 ⟨rfl, hb2⟩; have hB2 := hB.below hb2 (by simp); have f0 := hB2.frozen 0; have f1 := hB2.frozen 1; have c0 := (hB2.cell 0).trans rfl; have c1 := (hB2.cell 1).trans rfl)
    refine bodyPost_ret (v := .tuple #[.agg #[.int .i64 (M : Int), .int .i64 0], .bool true]) (by simp [results, Try.results52, go_sem, c0, c1]) rfl ⟨rfl, ?_⟩
    exact ((hb0.trans (hb2.mono (by simp))).setCell (by simp) _).setCell (by simp) _
set_option maxHeartbeats 1600000 in
theorem norm0_any (m : Nat) (hm : m < 1000000000000000000) (w : World) :
    Calls Try.prog 33 #[.int .i64 (m : Int), .int .i64 0] w fun e w' => e = .returned (.tuple #[.agg #[.int .i64 (m : Int), .int .i64 0], .bool true]) ∧ Below w.heap.size w w' := by
  have kA := fun W => amount_any m (by omega) W
  have hlen : (digL m).length ≤ 18 := digF_short 20 m 18 (by omega)
  have h0 : ∀ x, (digL m).head? = some x → x ≠ 0 := fun x hx => by
    rcases Nat.eq_zero_or_pos m with h | h
    · subst h; cases hx
    · obtain ⟨c, l, h1, h2⟩ := digF_head 20 m (by omega) h
      unfold digL at hx
      rw [h1] at hx
      injection hx with hx
      rw [← hx]; exact h2
  have kD := fun A c W h h1 h2 => decimal0_any A c (digL m) W h hlen h1 h2 (digF_le 20 m) h0
  rw [digL_ok (by omega)] at kD
  generalize digL m = l at kA kD
  have hd : decide ((m : Int) < 0) = false := decide_eq_false (by omega)
  have hB := Blk.new w 73 #[.int .i64 0, .int .i64 0]
  clear h0 hlen
  go_enter Try.func33, Try.ntmps33
  go_wp2_with (first
    | (go_at_call 53; refine (kA _).mono ?_; rintro e w1 ⟨⟨B, d, rfl, h1, h2, h3⟩, hb1⟩; have hB1 := hB.below hb1 (by simp))
    | (go_at_call 52; refine (kD _ _ _ h3 h1 h2).mono ?_; rintro e w2 ⟨rfl, hb2⟩; have hs1 := hb1.size; have hB2 := hB1.below hb2 (by simp at hs1; omega); have f0 := hB2.frozen 0; have f1 := hB2.frozen 1; have c0 := (hB2.cell 0).trans rfl; have c1 := (hB2.cell 1).trans rfl))
  refine bodyPost_ret (v := .tuple #[.agg #[.int .i64 (m : Int), .int .i64 0], .bool true]) (by simp [results, Try.results33, go_sem, c0, c1]) rfl ⟨rfl, ?_⟩
  exact ((((Below.refl _ _).alloc (Nat.le_refl _) _).trans ((bl_any hb1 hb2).mono (by simp))).setCell (by simp) _).setCell (by simp) _
/-- A number's digits as they are printed. -/
def ascL (l : List UInt8) : List UInt8 := l.map fun c => UInt8.ofNat (48 + c.toNat)
def printL (n : Nat) : List UInt8 := ascL (if n = 0 then [0] else digL n)
theorem conv_dig (W : World) (D : Nat) (h : D ≤ 9) : (convert 53 9 (.slice (some ⟨W.heap.size, 0, none⟩) 1 1)).run Try.prog (W.alloc (.cells #[.int .u8 (48 + (D : Int))] 5)) = .ok (.string ⟨#[UInt8.ofNat (48 + D)]⟩) (W.alloc (.cells #[.int .u8 (48 + (D : Int))] 5)) := by
  have := conv_byte W (UInt8.ofNat (48 + D))
  have e : ((UInt8.ofNat (48 + D)).toNat : Int) = 48 + (D : Int) := by
    rw [UInt8.toNat_ofNat_of_lt' (by show 48 + D < 256; omega)]; omega
  rw [e] at this
  exact this
theorem ascL_take (l : List UInt8) (k : Nat) (h : k < l.length) : mkS (ascL (l.take (k + 1))) = mkS (ascL (l.take k)) ++ ⟨#[UInt8.ofNat (48 + (l.getD k 0).toNat)]⟩ := by
  rw [take_snoc l k h]
  unfold ascL
  rw [List.map_append, ← mk_app]; rfl
set_option maxRecDepth 100000 in
set_option maxHeartbeats 3200000 in
theorem print0_any (m : Nat) (hm : m < 1000000000000000000) (w : World) :
    Calls Try.prog 34 #[.agg #[.int .i64 (m : Int), .int .i64 0]] w fun e w' => e = .returned (.string (mkS (printL m))) ∧ Below w.heap.size w w' := by
  have kG := fun W => good0_any m (by omega) W
  have kA := fun W => amount_any m (by omega) W
  obtain ⟨ds, hds⟩ : ∃ ds, (if m = 0 then [0] else digL m) = ds := ⟨_, rfl⟩
  have hP : printL m = ascL ds := by unfold printL; rw [hds]
  rw [hP]
  have h9 : ∀ x ∈ ds, x.toNat ≤ 9 := by
    rw [← hds]
    split
    · intro x hx; rw [List.mem_singleton.1 hx]; decide
    · exact digF_le 20 m
  have hlen : ds.length ≤ 18 := by
    rw [← hds]
    split
    · simp
    · exact digF_short 20 m 18 (by omega)
  have hz : m = 0 → digL m = [] ∧ ds = [0] := fun e => by subst e; exact ⟨rfl, by rw [← hds]; rfl⟩
  have hnz : m ≠ 0 → digL m = ds ∧ 0 < ds.length := fun e => by
    rw [if_neg e] at hds
    refine ⟨hds, ?_⟩
    rw [← hds]
    exact List.length_pos_iff.2 (digF_ne 20 m (by omega) (by omega))
  have hB := Blk.new w 73 #[.int .i64 (m : Int), .int .i64 0]
  have hdm : decide ((m : Int) < 0) = false := decide_eq_false (by omega)
  have hu : Try.prog.underlying 53 = some (.slice 5) := by kernel_rfl
  obtain ⟨i0, hinf, hz0, hz1, hz2⟩ := info_parts Try.infoByte
  obtain ⟨T, hT⟩ : ∃ T, mkS (ascL ds) = T := ⟨_, rfl⟩
  rw [hT]
  have HT := Lib.hid hT
  clear hds hP hT
  generalize hD : digL m = D at kA hz hnz
  clear hD
  go_enter Try.func34, Try.ntmps34
  go_upto_block 0 with (first
    | (go_at_call 54; refine (kG _).mono ?_; rintro e w1 ⟨rfl, hb1⟩; have hB1 := hB.below hb1 (by simp); have c0 := (hB1.cell 0).trans rfl; have c1 := (hB1.cell 1).trans rfl)
    | (go_at_call 53; refine (kA _).mono ?_; rintro e w2 ⟨⟨A, c, rfl, h1, h2, h3⟩, hb2⟩; have hs1 := hb1.size; have hB2 := hB1.below hb2 (by simp at hs1; omega); have d0 := (hB2.cell 0).trans rfl; have d1 := (hB2.cell 1).trans rfl))
  have hb02 : Below w.heap.size w w2 := ((Below.refl _ _).alloc (Nat.le_refl _) _).trans ((bl_any hb1 hb2).mono (by simp))
  go_cut [3] from 12 to 19 (fun v wx => (∃ A c, v = .slice A ds.length c ∧ Bts wx A ds.length ds) ∧ Blk wx w.heap.size 73 #[.int .i64 (m : Int), .int .i64 0] ∧ Below w.heap.size w wx)
  case first =>
    by_cases hm0 : m = 0
    · obtain ⟨rfl, rfl⟩ := hz hm0
      clear hm0
      have hlit := World.ownsRow_lit (base := w.heap.size) (e := 5) (size := 1) w2 #[.int .u8 0] 1 hb02.size (by simp [maxLen]) rfl
      have hbl := bl_alloc hb02 (.cells #[.int .u8 0] 5)
      have hRd : Reads (w2.alloc (.cells #[.int .u8 0] 5)) (w2.alloc (.cells #[.int .u8 0] 5)).heap.size 1 A 0 [] := Reads.none_
      have hbs := hb02.size
      clear kA kG hnz hz
      go_wp2_with fail
      refine wp_loop_rounds 2 ?_
      rw [rounds_succ]
      go_wp2_with (at_builtin; go_loud (refine wpList_append_any _ (by rfl) (.tmp 17) (.tmp 18) _ (by rfl) w.heap.size 5 i0 _ 1 1 hu hinf hz0 hz1 hz2 rfl (by omega) _ 1 _ (by rfl) hlit _ A 0 c [] (by rfl) hRd (by simp) (by simp [maxLen]) (by omega) hbl.size ?_); go_loud (intro v3 w3 hown3 hg3 hat3); go_loud (have hb3 := hbl.grown hg3 hbl.size (fun j e => (hlit.lt _ e).1)); go_loud (have hB3 := (hB2.alloc (.cells #[.int .u8 0] 5)).grown hg3 (fun e => own_blk_ne hlit (hB2.alloc (.cells #[.int .u8 0] 5)) (by decide) e.symm)))
      obtain ⟨A3, c3, rfl, h31, h32⟩ := own_form2 hown3
      have e1 := (hB3.cell 1).trans rfl
      rw [rounds_succ]
      go_wp2_with fail
      go_meet
      exact ⟨⟨A3, c3, rfl, own_bts (l := [0]) hown3 rfl⟩, hB3, hb3⟩
    · obtain ⟨rfl, hpos⟩ := hnz hm0
      have hq : decide ((D.length : Int) ≤ 0) = false := decide_eq_false (by omega)
      have hq2 : decide (D = []) = false := decide_eq_false (fun e => by rw [e] at hpos; simp at hpos)
      clear hm0 kA kG hz hnz
      go_wp2_with fail
      refine wp_loop_rounds 1 ?_
      rw [rounds_succ]
      go_wp2_with fail
      go_meet
      exact ⟨⟨A, c, rfl, h3⟩, hB2, hb02⟩
  case rest =>
    obtain ⟨⟨A, c, rfl, hA⟩, hB3, hb3⟩ := hcut
    clear hB2 hB1 c0 c1 d0 d1 hb02 hb1 hb2 kA kG hz hnz
    have d0 := (hB3.cell 0).trans rfl
    have d1 := (hB3.cell 1).trans rfl
    have hbs := hb3.size
    go_wp2_with fail
    go_loopw [4, 5] (fun o iv wr => ((Bts wr A ds.length ds ∧ Blk wr w.heap.size 73 #[.int .i64 (m : Int), .int .i64 0]) ∧ Below w.heap.size w wr) ∧ ∃ k : Nat, k ≤ ds.length ∧ iv = .int .i64 k ∧ o = .string (mkS (ascL (ds.take k)))) (fun _ iv _ => ds.length - (intOf iv).toNat)
    case atStart => exact ⟨⟨⟨hA, hB3⟩, hb3⟩, 0, by omega, rfl, rfl⟩
    case round =>
      clear hA hB3 hb3 d0 d1
      obtain ⟨⟨⟨hA, hB3⟩, hb3⟩, k, hk, rfl, rfl⟩ := hrel
      have d1 := (hB3.cell 1).trans rfl
      by_cases hlt : k < ds.length
      · have hd : decide ((k : Int) < ds.length) = true := decide_eq_true (by omega)
        have hi0 : (0 : Int) ≤ k := by omega
        have hi1 : (k : Int) < ds.length := by omega
        have hne : ((k : Int) == ds.length) = false := by rw [beq_eq_false_iff_ne]; omega
        obtain ⟨b, off, rfl, hbl, hc0⟩ := hA.at_ hlt
        have HK := Lib.hid (ascL_take ds k hlt)
        have hg9 : (ds.getD k 0).toNat ≤ 9 := by
          rw [List.getD_eq_getElem?_getD, List.getElem?_eq_getElem hlt]
          exact h9 _ (List.getElem_mem _)
        have hsz : (mkS (ascL (ds.take k))).size ≤ 18 := by
          show (ascL (ds.take k)).length ≤ 18
          unfold ascL; rw [List.length_map, List.length_take]; omega
        generalize (ds.getD k 0).toNat = D0 at HK hg9 hc0
        generalize mkS (ascL (ds.take k)) = O at HK hsz
        have hl1 : ¬ 9223372036854775807 < O.size + 1 := by omega
        have hcv := conv_dig wr D0 hg9
        generalize UInt8.ofNat (48 + D0) = X at HK hcv
        have hw8 : IntKind.u8.wrap (48 + (D0 : Int)) = 48 + D0 := by
          unfold IntKind.wrap; simp [IntKind.bits, IntKind.signed]; omega
        go_wp2_with fail
        have hb4 : Below wr.heap.size wr (wr.alloc (.cells #[.int .u8 (48 + (D0 : Int))] 5)) := (Below.refl _ _).alloc (Nat.le_refl _) _
        exact ⟨⟨⟨⟨hA.below hb4, hB3.alloc _⟩, bl_any hb3 hb4⟩, k + 1, by omega, rfl, by rw [HK.out]⟩, by (simp only [intOf]; omega)⟩
      · have hd : decide ((k : Int) < ds.length) = false := decide_eq_false (by omega)
        obtain rfl : k = ds.length := by omega
        rw [List.take_length, HT.out]
        go_wp2_with fail
        go_ret
        exact ⟨rfl, hb3⟩
set_option maxHeartbeats 1600000 in
theorem text20_any (m : Nat) (hm : m < 1000000000000000000) (w : World) :
    Calls Try.prog 21 #[.int .i64 (m : Int)] w fun e w' => e = .returned (.string (mkS (printL m))) ∧ Below w.heap.size w w' := by
  have kN := fun W => norm0_any m hm W
  have kP := fun W => print0_any m hm W
  generalize mkS (printL m) = T at kP
  go_enter Try.func21, Try.ntmps21
  go_wp2_with (first
    | (go_at_call 33; refine (kN _).mono ?_; rintro e w1 ⟨rfl, hb1⟩)
    | (go_at_call 34; refine (kP _).mono ?_; rintro e w2 ⟨rfl, hb2⟩))
  go_ret
  exact ⟨rfl, bl_any (bl_alloc hb1 _) hb2⟩
end Go.Proofs.Ytdngieihlcknmaa
