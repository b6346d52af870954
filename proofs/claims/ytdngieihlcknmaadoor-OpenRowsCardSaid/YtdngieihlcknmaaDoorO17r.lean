/- The walk of OpenRows. -/
import Derived.Test.YtdngieihlcknmaaDoorO17a
import Derived.Test.YtdngieihlcknmaaDoorOpenRow
import Derived.Test.YtdngieihlcknmaaDoorOpenDfa2
import Derived.Test.YtdngieihlcknmaaDoorSameR
namespace Go.Proofs.YtdngieihlcknmaaDoor
set_option linter.unusedVariables false
set_option linter.unusedSimpArgs false
open Go.RowKit
set_option maxHeartbeats 1600000 in
theorem stands_any (s t : ByteArray) (a : Nat) (w : World) (hs : s.size ≤ 1048576) (h : standsL s.data.toList a t.data.toList) :
    Calls Tryd.prog 18 #[.string s, .int .i64 (a : Int), .string t] w fun e w' => e = .returned (.bool true) ∧ w' = w := by
  obtain ⟨h1, h2⟩ := h
  have hL : s.data.toList.length = s.size := by simp
  have hT : t.data.toList.length = t.size := by simp
  rw [hL, hT] at h1
  have h3 : s.extract a (a + t.size) = t := by
    apply bytes_ext
    rw [ext_bytes, ← hT]
    exact h2
  have d1 : decide ((0 : Int) ≤ a) = true := decide_eq_true (by omega)
  have d2 : decide ((a : Int) ≤ s.size) = true := decide_eq_true (by omega)
  have d3 : decide ((t.size : Int) ≤ (s.size : Int) - a) = true := decide_eq_true (by omega)
  have q1 : IntKind.i64.wrap ((s.size : Int) - a) = (s.size : Int) - a := IntWalk.i64_in _ (by omega)
  have q2 : IntKind.i64.wrap ((a : Int) + t.size) = (a : Int) + t.size := IntWalk.i64_in _ (by omega)
  have i0 : (0 : Int) ≤ a := by omega
  have i1 : (a : Int) ≤ (a : Int) + t.size := by omega
  have i2 : (a : Int) + t.size ≤ s.size := by omega
  have i3 : ((a : Int) + t.size).toNat = a + t.size := by omega
  clear hL hT h1 h2
  go_enter Tryd.func18, Tryd.ntmps18
  go_wp2_with fail
  go_ret
  exact ⟨rfl, rfl⟩
section
variable {l : List UInt8}
theorem tagsOk_at : ∀ {ts : List MTag} {b m : Nat} {t : MTag}, TagsOk l b ts → ts[m]? = some t → TagOk l (tagsEnd b (ts.take m)) t ∧ tagsEnd b (ts.take (m + 1)) = t.pos
  | [], _, _, _, _, h => by simp at h
  | x :: xs, b, 0, t, h, e => by
    simp at e; subst e
    exact ⟨h.1, by simp [tagsEnd]⟩
  | x :: xs, b, m + 1, t, h, e => by
    simp at e
    have := tagsOk_at h.2 e
    simpa [tagsEnd] using this
theorem rowsOk_at : ∀ {rs : List MRow} {b m : Nat} {r : MRow}, RowsOk l b rs → rs[m]? = some r → RowOk l (rowsEnd b (rs.take m)) r ∧ rowsEnd b (rs.take (m + 1)) = rowEnd r
  | [], _, _, _, _, h => by simp at h
  | x :: xs, b, 0, t, h, e => by
    simp at e; subst e
    exact ⟨h.1, by simp [rowsEnd]⟩
  | x :: xs, b, m + 1, t, h, e => by
    simp at e
    have := rowsOk_at h.2 e
    simpa [rowsEnd] using this
theorem tagsOk_len : ∀ {ts : List MTag} {b : Nat}, TagsOk l b ts → b + ts.length ≤ tagsEnd b ts
  | [], _, _ => Nat.le_refl _
  | x :: xs, b, h => by
    have h1 := tagsOk_len h.2
    have h2 := h.1.1
    have h3 := h.1.2.2.2
    simp only [List.length_cons, tagsEnd]
    omega
theorem rowsOk_len : ∀ {rs : List MRow} {b : Nat}, RowsOk l b rs → b + rs.length ≤ rowsEnd b rs
  | [], _, _ => Nat.le_refl _
  | x :: xs, b, h => by
    have h1 := rowsOk_len h.2
    have h2 := h.1.off
    have h3 := h.1.pos
    have h4 := tagsOk_len h.1.tags
    have h5 := h.1.fin
    have h6 : x.pos ≤ rowEnd x := Nat.le_max_left _ _
    simp only [List.length_cons, rowsEnd]
    omega
theorem rowsOk_end : ∀ {rs : List MRow} {b m : Nat} {r : MRow}, RowsOk l b rs → rs[m]? = some r → rowEnd r ≤ rowsEnd b rs
  | [], _, _, _, _, h => by simp at h
  | x :: xs, b, 0, r, h, e => by
    simp at e; subst e
    have := rowsOk_len h.2
    simp only [rowsEnd]
    omega
  | x :: xs, b, m + 1, r, h, e => by
    simp at e
    show rowEnd r ≤ rowsEnd (rowEnd x) xs
    exact rowsOk_end h.2 e
end
set_option maxRecDepth 100000 in
set_option maxHeartbeats 12800000 in
theorem stand17_any (s : ByteArray) (m : Int) (w : World) (hm : MxAt w m) (hs : s.size ≤ 9223372036854775807) :
    Calls Tryd.prog 7 #[.string s] w fun e w' => e = .returned (.bool true) ∧ Below w.heap.size w w' := by
  by_cases h1500 : 1500 < s.size
  · have hd1 : decide ((1500 : Int) < s.size) = true := decide_eq_true (by omega)
    go_enter Tryd.func7, Tryd.ntmps7
    go_wp2_with (go_at_call 8; refine (known17_any m _ hm).mono ?_; rintro e w1 ⟨rfl, hb1⟩)
    go_ret
    exact ⟨rfl, hb1⟩
  have hd1 : decide ((1500 : Int) < s.size) = false := decide_eq_false (by omega)
  have hz : s.size ≤ 1500 := by omega
  have kR := fun W => rows_any s W (by omega)
  have hok := open_rows (l := s.data.toList)
  have hL : s.data.toList.length = s.size := by simp
  have hbb : openBad s.data.toList = (if (openRows s.data.toList).2.2 then ((openRows s.data.toList).2.1 : Int) else -1) := rfl
  have kB := fun W => bad_any' s W (by omega)
  rw [hbb] at kB
  generalize openRows s.data.toList = R at kR hok kB
  clear hbb
  obtain ⟨rows, p, no⟩ := R
  cases no
  case true =>
    have hp0 : decide ((0 : Int) ≤ (p : Int)) = true := decide_eq_true (by omega)
    simp only [if_true] at kB
    clear hok hL
    go_enter Tryd.func7, Tryd.ntmps7
    go_wp2_with (first
      | (go_at_call 8; refine (known17_any m _ hm).mono ?_; rintro e w1 ⟨rfl, hb1⟩)
      | (go_at_call 9; (with_reducible refine (kR _).mono ?_); rintro e w2 ⟨⟨A, n, c, rfl, hR⟩, hb2⟩; obtain rfl : 0 = n := hR.len)
      | (go_at_call 11; (with_reducible refine (kB _).mono ?_); rintro e w3 ⟨rfl, hb3⟩))
    go_ret
    exact ⟨rfl, bl_any (bl_any hb1 hb2) hb3⟩
  case false =>
    have HOK := Lib.hid (hok rfl)
    have HL := Lib.hid hL
    clear hok hL kB
    go_enter Tryd.func7, Tryd.ntmps7
    go_wp2_with (first
      | (go_at_call 8; refine (known17_any m _ hm).mono ?_; rintro e w1 ⟨rfl, hb1⟩)
      | (go_at_call 9; (with_reducible refine (kR _).mono ?_); rintro e w2 ⟨⟨A, n, c, rfl, hR⟩, hb2⟩; have B2 := bl_any hb1 hb2; have HR : Hid (HasRows w2 w2.heap.size A n rows) := Lib.hid hR; clear hR hb1 hb2))
    clear kR
    have hn15 : n ≤ 1500 := by
      have h1 := rowsOk_len HOK.out.1
      have h2 := HOK.out.2
      rw [HL.out] at h2
      have := HR.out.len
      omega
    go_loopw [5, 6] (fun at_ i wr => Below w2.heap.size w2 wr ∧ ∃ k : Nat, k ≤ n ∧ i = .int .i64 k ∧ at_ = .int .i64 (rowsEnd 0 (rows.take k) : Nat)) (fun _ i _ => n - (intOf i).toNat)
    case atStart => exact ⟨Below.refl _ _, 0, by omega, rfl, rfl⟩
    case round =>
      obtain ⟨hbr, k, hk, rfl, rfl⟩ := hrel
      by_cases hlt : k < n
      case neg =>
        have hd : decide ((k : Int) < n) = false := decide_eq_false (by omega)
        have hfin : decide (((rowsEnd 0 (rows.take k) : Nat) : Int) ≤ s.size) = true := by
          have h1 := HOK.out.2
          rw [HL.out] at h1
          have h2 : rows.take k = rows := List.take_of_length_le (by have := HR.out.len; omega)
          rw [h2]
          exact decide_eq_true (by omega)
        generalize rowsEnd 0 (rows.take k) = at1 at hfin ⊢
        go_wp2_with fail
        go_ret
        exact ⟨ret_bool (by simpa using hfin), bl_any B2 hbr⟩
      case pos =>
        have hd : decide ((k : Int) < n) = true := decide_eq_true (by omega)
        have hi0 : (0 : Int) ≤ k := by omega
        have hi1 : (k : Int) < n := by omega
        obtain ⟨R, hRk⟩ : ∃ R, rows[k]? = some R := ⟨_, List.getElem?_eq_getElem (by rw [HR.out.len]; exact hlt)⟩
        obtain ⟨b1, off1, tA, tc, fA, fc, rfl, hb1, ⟨p0, p1, p2, p3, p4, p5, p6, p7, p8, p9⟩, ht1, _⟩ := (HR.out.below hbr).at_ hRk
        obtain ⟨hO, hE⟩ := rowsOk_at HOK.out.1 hRk
        have hps : R.pos ≤ 1500 := by
          have h1 := rowsOk_end HOK.out.1 hRk
          have h2 := HOK.out.2
          rw [HL.out] at h2
          have h3 : R.pos ≤ rowEnd R := Nat.le_max_left _ _
          omega
        have HE := Lib.hid hE
        clear hRk hE
        generalize rowsEnd 0 (rows.take k) = at1 at hO ⊢
        obtain ⟨K, nm, o, tags, flds, text, ps, timed, time, wh⟩ := R
        obtain ⟨o1, o2, o3, o4, o5, o6, o7, o8, o9⟩ := hO
        simp only at p0 p1 p2 p3 p4 p5 p6 p7 p8 p9 o1 o2 o3 o4 o5 o6 o7 o8 o9 ht1 hps
        have htl15 : tags.length ≤ 1500 := by
          have := tagsOk_len o5
          omega
        have hnm := o2.1
        rw [HL.out] at hnm
        have hnl : nm.data.toList.length = nm.size := by simp
        rw [hnl] at hnm
        have kN := fun W => stands_any s nm o W (by omega) o2
        have c1 : decide ((o : Int) < (at1 : Int)) = false := decide_eq_false (by omega)
        have c2 : decide ((ps : Int) < (o : Int) + nm.size) = false := decide_eq_false (by omega)
        have c1n : decide (o < at1) = false := decide_eq_false (by omega)
        have c1m : at1 ≤ o := by omega
        have c2n : decide (ps < o + nm.size) = false := decide_eq_false (by omega)
        have c2m : o + nm.size ≤ ps := by omega
        have q1 : IntKind.i64.wrap ((o : Int) + nm.size) = (o : Int) + nm.size := IntWalk.i64_in _ (by omega)
        have hz2 := hbr.size
        have hbl1 : b1 < wr.heap.size := by omega
        have kX : K = 3 ∨ (K ≠ 3 ∧ ∀ W, Calls Tryd.prog 18 #[.string s, .int .i64 (ps : Int), .string text] W fun e w' => e = .returned (.bool true) ∧ w' = W) := by
          by_cases hK : K = 3
          · exact .inl hK
          · exact .inr ⟨hK, fun W => stands_any s text ps W (by omega) (o4.resolve_left hK)⟩
        have HT := Lib.hid o5
        have HX := Lib.hid kX
        have H7 := Lib.hid o7
        have H8 := Lib.hid o8
        clear o1 o2 o3 o4 o5 o7 o8 o9 kX hnl
        obtain ⟨wo, rfl⟩ : ∃ wo, wo = wr := ⟨_, rfl⟩
        go_upto_region 13 with fail
        have hX := Blk.new wo 42 #[.int .i64 (K : Int), .string nm, .int .i64 (o : Int), .slice tA tags.length tc, .slice fA flds.length fc, .string text, .int .i64 (ps : Int), .bool timed, .string time, .int .i64 (wh : Int)]
        have hbx : Below w2.heap.size w2 (wo.alloc (.cells #[.int .i64 (K : Int), .string nm, .int .i64 (o : Int), .slice tA tags.length tc, .slice fA flds.length fc, .string text, .int .i64 (ps : Int), .bool timed, .string time, .int .i64 (wh : Int)] 42)) := hbr.alloc hz2 _
        have ht2 := ht1.below ((Below.refl w2.heap.size wo).alloc hz2 (.cells #[.int .i64 (K : Int), .string nm, .int .i64 (o : Int), .slice tA tags.length tc, .slice fA flds.length fc, .string text, .int .i64 (ps : Int), .bool timed, .string time, .int .i64 (wh : Int)] 42))
        generalize hWi : wo.alloc _ = wi at hX hbx ht2 ⊢
        generalize hgx : wo.heap.size = gx at hX ⊢
        have x0 := (Blk.cell hX 0).trans rfl
        have x1 := (Blk.cell hX 1).trans rfl
        have x2 := (Blk.cell hX 2).trans rfl
        have x3 := (Blk.cell hX 3).trans rfl
        have x5 := (Blk.cell hX 5).trans rfl
        have x6 := (Blk.cell hX 6).trans rfl
        have x7 := (Blk.cell hX 7).trans rfl
        have x8 := (Blk.cell hX 8).trans rfl
        have x9 := (Blk.cell hX 9).trans rfl
        clear p0 p1 p2 p3 p4 p5 p6 p7 p8 p9 ht1 hWi hd hi0 hi1
        obtain ⟨kq, hkq⟩ : ∃ q, ((K : Int) != 3) = q := ⟨_, rfl⟩
        have hkT : kq = true → ∀ W, Calls Tryd.prog 18 #[.string s, .int .i64 (ps : Int), .string text] W fun e w' => e = .returned (.bool true) ∧ w' = W := fun h => by
          rcases HX.out with rfl | ⟨_, hT⟩
          · rw [h] at hkq; exact absurd hkq (by decide)
          · exact hT
        clear HX
        cases kq
        all_goals
          first
            | (have kT := hkT rfl; clear hkT)
            | clear hkT
          go_upto_region 15 with (first
            | (go_at_call 18; (with_reducible refine (kN _).mono ?_); rintro e w3 ⟨rfl, hw3⟩; rw [hw3]; clear hw3 w3)
            | (go_at_call 18; (with_reducible refine (kT _).mono ?_); rintro e w3 ⟨rfl, hw3⟩; rw [hw3]; clear hw3 w3))
          go_wp2_with fail
          go_loopw [5, 8] (fun at_ j wr => Below wi.heap.size wi wr ∧ ∃ q : Nat, q ≤ tags.length ∧ j = .int .i64 q ∧ at_ = .int .i64 (tagsEnd (o + nm.size) (tags.take q) : Nat)) (fun _ j _ => tags.length - (intOf j).toNat)
          case atStart => exact ⟨Below.refl _ _, 0, by omega, rfl, rfl⟩
          case round =>
            clear x0 x1 x2 x3 x5 x6 x7 x8 x9
            obtain ⟨hbq, q, hq, rfl, rfl⟩ := hrel
            have hXq := hX.below hbq (Blk.lt hX)
            have x3 := (Blk.cell hXq 3).trans rfl
            by_cases hlq : q < tags.length
            case pos =>
              have hd : decide ((q : Int) < tags.length) = true := decide_eq_true (by omega)
              have hj0 : (0 : Int) ≤ q := by omega
              have hj1 : (q : Int) < tags.length := by omega
              have ht : tags[q]? = some (tags[q]'hlq) := List.getElem?_eq_getElem hlq
              obtain ⟨c1', o1', rfl, hc1, p0, p1, p2, p3⟩ := (ht2.below (hbq.mono hbx.size)).tag ht
              obtain ⟨⟨t1, t2, t3, t4⟩, hE2⟩ := tagsOk_at HT.out ht
              have HE2 := Lib.hid hE2
              clear hE2 ht
              generalize tags[q]'hlq = t at p0 p1 p2 p3 t1 t2 t3 t4 HE2
              generalize tagsEnd (o + nm.size) (tags.take q) = at2 at t1 ⊢
              have hc2 : c1' < wr.heap.size := by have := hbq.size; have := hbx.size; omega
              have hnl : t.name.data.toList.length = t.name.size := by simp
              have hw := t3.1
              rw [HL.out] at hw
              have hw2 : t.off + t.name.size + 2 ≤ s.size := hw
              have kA := fun W => stands_any s t.name t.off W (by omega) t2
              have kC : ∀ W, Calls Tryd.prog 18 #[.string s, .int .i64 ((t.off : Int) + t.name.size), .string ⟨#[61, 34]⟩] W fun e w' => e = .returned (.bool true) ∧ w' = W := fun W => stands_any s ⟨#[61, 34]⟩ (t.off + t.name.size) W (by omega) t3
              have e1 : decide ((t.off : Int) ≤ (at2 : Int)) = false := decide_eq_false (by omega)
              have e1n : decide (t.off ≤ at2) = false := decide_eq_false (by omega)
              have e1m : at2 < t.off := by omega
              have e2 : ((t.pos : Int) != (t.off : Int) + t.name.size + 2) = false := by rw [t4]; simp
              have r1 : IntKind.i64.wrap ((t.off : Int) + t.name.size) = (t.off : Int) + t.name.size := IntWalk.i64_in _ (by omega)
              have r2 : IntKind.i64.wrap ((t.off : Int) + t.name.size + 2) = (t.off : Int) + t.name.size + 2 := IntWalk.i64_in _ (by omega)
              clear t1 t2 t3 t4 hw hw2 hnl
              go_wp2_with (first
                | (go_at_call 18; (with_reducible refine (kA _).mono ?_); rintro e w3 ⟨rfl, hw3⟩; rw [hw3]; clear hw3 w3)
                | (go_at_call 18; (with_reducible refine (kC _).mono ?_); rintro e w3 ⟨rfl, hw3⟩; rw [hw3]; clear hw3 w3))
              exact ⟨⟨hbq.alloc hbq.size _, q + 1, by omega, rfl, by rw [HE2.out]⟩, by (simp only [intOf]; omega)⟩
            case neg =>
              have hd : decide ((q : Int) < tags.length) = false := decide_eq_false (by omega)
              have hfull : tags.take q = tags := List.take_of_length_le (by omega)
              rw [hfull]
              have x6 := (Blk.cell hXq 6).trans rfl
              have x7 := (Blk.cell hXq 7).trans rfl
              have x8 := (Blk.cell hXq 8).trans rfl
              have x9 := (Blk.cell hXq 9).trans rfl
              have e1 : decide ((ps : Int) ≤ (tagsEnd (o + nm.size) tags : Nat)) = false := decide_eq_false (by omega)
              have e1n : decide (ps ≤ tagsEnd (o + nm.size) tags) = false := decide_eq_false (by omega)
              have e1m : tagsEnd (o + nm.size) tags < ps := o6
              generalize tagsEnd (o + nm.size) tags = at2 at e1 e1n e1m ⊢
              cases timed
              case false =>
                obtain ⟨rfl, ht0⟩ := H8.out rfl
                have ht0 : time = ⟨#[]⟩ := ht0
                subst ht0
                go_wp2_with fail
                exact ⟨⟨hbx.trans (hbq.mono hbx.size), k + 1, by omega, rfl, by rw [HE.out]; simp [rowEnd]⟩, by (simp only [intOf]; omega)⟩
              case true =>
                obtain ⟨hpw, hst⟩ := H7.out rfl
                have hsl := hst.1
                rw [HL.out] at hsl
                have htl : time.data.toList.length = time.size := by simp
                simp only [List.length_cons, List.length_append, List.length_nil, htl] at hsl
                have kW : ∀ W, Calls Tryd.prog 18 #[.string s, .int .i64 ((wh : Int) - 1), .string (⟨#[32]⟩ ++ time ++ ⟨#[10]⟩)] W fun e w' => e = .returned (.bool true) ∧ w' = W := fun W => by
                  have := stands_any s (⟨#[32]⟩ ++ time ++ ⟨#[10]⟩) (wh - 1) W (by omega) (by rw [str_app, str_app]; exact hst)
                  rw [show ((wh - 1 : Nat) : Int) = (wh : Int) - 1 by omega] at this
                  exact this
                have e2 : decide ((wh : Int) ≤ (ps : Int)) = false := decide_eq_false (by omega)
                have e2n : decide (wh ≤ ps) = false := decide_eq_false (by omega)
                have e2m : ps < wh := hpw
                have r1 : IntKind.i64.wrap ((wh : Int) - 1) = (wh : Int) - 1 := IntWalk.i64_in _ (by omega)
                have z1 : ¬ 9223372036854775807 < 1 + time.size := by omega
                have z2 : ¬ 9223372036854775807 < 1 + time.size + 1 := by omega
                clear hst hsl htl
                go_wp2_with (go_at_call 18; (with_reducible refine (kW _).mono ?_); rintro e w3 ⟨rfl, hw3⟩; rw [hw3]; clear hw3 w3)
                exact ⟨⟨hbx.trans (hbq.mono hbx.size), k + 1, by omega, rfl, by rw [HE.out]; simp [rowEnd]; omega⟩, by (simp only [intOf]; omega)⟩
end Go.Proofs.YtdngieihlcknmaaDoor
