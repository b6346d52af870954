/- The walk of statread's Read once more: with what its slice's cap is. -/
import Derived.Test.YtpknjngjkdnpiaaGreatDoorMgEvB
namespace Go.Proofs.YtpknjngjkdnpiaaGreatDoor
set_option linter.unusedVariables false
set_option linter.unusedSimpArgs false
open Go.RowKit
theorem ev_form2 {w : World} {base : Nat} {e : TypeId} {size n : Nat} {v : Value} {xs : List Value} (h : w.ownsRow base e size v n xs) : ∃ A c, v = .slice A n c ∧ n ≤ c ∧ c ≤ maxLen := by
  obtain ⟨hl, ⟨rfl, rfl⟩ | ⟨g, cap, cur, rfl, hg, hh, h1, h2, r⟩⟩ := h
  · exact ⟨_, _, rfl, Nat.le_refl _, Nat.zero_le _⟩
  · exact ⟨_, _, rfl, h1, h2⟩
/-- What Read tells, with the cap. -/
def ReadC (s : ByteArray) (w : World) : Except (Nat × Int) (List MEv) → Ending → Prop
  | .error x, en => en = .returned (.tuple #[.slice none 0 0, .agg #[.int .i64 (x.1 : Int), .int .i64 (fltO x.1 s x.2), .int .i64 (fltL x.1 s x.2), .int .i64 (fltC x.1 s x.2)]])
  | .ok evs, en => ∃ A n cap, en = .returned (.tuple #[.slice A n cap, .agg #[.int .i64 0, .int .i64 0, .int .i64 0, .int .i64 0]]) ∧ n ≤ cap ∧ cap ≤ maxLen ∧ HasEvs w w.heap.size A n evs
set_option maxRecDepth 100000 in
set_option maxHeartbeats 6400000 in
theorem sread26c_any (s : ByteArray) (w : World) (hs : s.size ≤ 1048575) :
    Calls Tryz.prog 15 #[.string s] w fun en w' => ReadC s w' (readS s) en ∧ Below w.heap.size w w' := by
  have hL : s.data.toList.length = s.size := by simp
  have hs5 : s.size ≤ 4611686018427387903 := by omega
  have k14 : ∀ W, Calls Tryz.prog 20 #[.int .i64 14, .string s, .int .i64 0] W fun e w' => e = .returned (.agg #[.int .i64 14, .int .i64 (fltO 14 s 0), .int .i64 (fltL 14 s 0), .int .i64 (fltC 14 s 0)]) ∧ Below W.heap.size W w' := fun W => spAt_any 14 s 0 W hs5
  have k11 : ∀ o W, Calls Tryz.prog 20 #[.int .i64 11, .string s, .int .i64 o] W fun e w' => e = .returned (.agg #[.int .i64 11, .int .i64 (fltO 11 s o), .int .i64 (fltL 11 s o), .int .i64 (fltC 11 s o)]) ∧ Below W.heap.size W w' := fun o W => spAt_any 11 s o W hs5
  have hF0 := Blk.new w 42 #[.int .i64 0, .int .i64 0, .int .i64 0, .int .i64 0]
  have hb0 : Below w.heap.size w (w.alloc (.cells #[.int .i64 0, .int .i64 0, .int .i64 0, .int .i64 0] 42)) := (Below.refl _ _).alloc (Nat.le_refl _) _
  obtain ⟨R, hR⟩ : ∃ R, readS s = R := ⟨_, rfl⟩
  rw [hR]
  unfold readS at hR
  by_cases h4 : 4000 < s.size
  case pos =>
    rw [if_pos h4] at hR
    subst hR
    have d4 : decide ((4000 : Int) < (s.size : Int)) = true := decide_eq_true (by omega)
    have d4n : decide (4000 < s.size) = true := decide_eq_true h4
    simp only [ReadC]
    go_enter Tryz.func15, Tryz.ntmps15
    go_wp2_with (go_at_call 20; (with_reducible refine (k14 _).mono ?_); rintro en w1 ⟨rfl, hb1⟩; have h1 := hF0.below hb1 (by simp); have c0 := (Blk.cell h1 0).trans rfl; have c1 := (Blk.cell h1 1).trans rfl; have c2 := (Blk.cell h1 2).trans rfl; have c3 := (Blk.cell h1 3).trans rfl; have f0 := Blk.frozen h1 0; have f1 := Blk.frozen h1 1; have f2 := Blk.frozen h1 2; have f3 := Blk.frozen h1 3)
    refine bodyPost_ret (v := .tuple #[.slice none 0 0, .agg #[.int .i64 14, .int .i64 (fltO 14 s 0), .int .i64 (fltL 14 s 0), .int .i64 (fltC 14 s 0)]]) (by simp [results, Tryz.results15, go_sem, c0, c1, c2, c3]) rfl ⟨rfl, ?_⟩
    exact bl_set (bl_set (bl_set (bl_set (bl_any hb0 hb1) (Nat.le_refl _) _) (Nat.le_refl _) _) (Nat.le_refl _) _) (Nat.le_refl _) _
  case neg =>
    rw [if_neg h4] at hR
    have d4 : decide ((4000 : Int) < (s.size : Int)) = false := decide_eq_false (by omega)
    have d4n : decide (4000 < s.size) = false := decide_eq_false h4
    have kRw := fun W => srows_any s W (by omega)
    have kB := fun W => sbad_any s W (by omega)
    obtain ⟨hok, hlen⟩ := statRows_ok s.data.toList
    rw [hL] at hlen
    generalize hbad : statBad s.data.toList = bad at *
    generalize statRows s.data.toList = Q at *
    obtain ⟨Q1, Qa, Qn⟩ := Q
    cases Qn
    case true =>
      simp only [if_true] at hR
      subst hR
      simp only [ReadC]
      clear hbad hok hlen
      have kRw' : ∀ W, Calls Tryz.prog 10 #[.string s] W fun e w' => (∃ A n c, e = .returned (.tuple #[.slice A n c, .bool false])) ∧ Below W.heap.size W w' := fun W => (kRw W).mono fun e w' ⟨⟨A, n, c, h1, _⟩, h3⟩ => ⟨⟨A, n, c, h1⟩, h3⟩
      clear kRw
      go_enter Tryz.func15, Tryz.ntmps15
      go_wp2_with (first
        | (go_at_call 10; (with_reducible refine (kRw' _).mono ?_); rintro en w1 ⟨⟨A, n, cc, rfl⟩, hb1⟩; have h1 := hF0.below hb1 (by simp))
        | (go_at_call 12; (with_reducible refine (kB _).mono ?_); rintro en w2 ⟨rfl, hb2⟩; have h2 := h1.below hb2 (Blk.lt h1))
        | (go_at_call 20; (with_reducible refine (k11 _ _).mono ?_); rintro en w3 ⟨rfl, hb3⟩; have h3 := h2.below hb3 (Blk.lt h2); have c0 := (Blk.cell h3 0).trans rfl; have c1 := (Blk.cell h3 1).trans rfl; have c2 := (Blk.cell h3 2).trans rfl; have c3 := (Blk.cell h3 3).trans rfl; have f0 := Blk.frozen h3 0; have f1 := Blk.frozen h3 1; have f2 := Blk.frozen h3 2; have f3 := Blk.frozen h3 3))
      refine bodyPost_ret (v := .tuple #[.slice none 0 0, .agg #[.int .i64 11, .int .i64 (fltO 11 s bad), .int .i64 (fltL 11 s bad), .int .i64 (fltC 11 s bad)]]) (by simp [results, Tryz.results15, go_sem, c0, c1, c2, c3]) rfl ⟨rfl, ?_⟩
      exact bl_set (bl_set (bl_set (bl_set (bl_any (bl_any (bl_any hb0 hb1) hb2) hb3) (Nat.le_refl _) _) (Nat.le_refl _) _) (Nat.le_refl _) _) (Nat.le_refl _) _
    case false =>
      simp only [Bool.false_eq_true, if_false] at hR
      have hmf : ∀ (fn : Fn) (first cap : Array Value) (w : World), (Instr.makeFunc fn first cap).run Tryz.prog w = .ok (.func fn first cap) w := fun _ _ _ _ => rfl
      clear hbad kB k11 k14
      have HO := Lib.hid hok
      clear hok
      go_enter Tryz.func15, Tryz.ntmps15
      go_upto_region 7 with (go_at_call 10; (with_reducible refine (kRw _).mono ?_); rintro en w1 ⟨⟨A, n, cc, rfl, hrows⟩, hb1⟩; have h1 := hF0.below hb1 (by simp))
      have hA2 : Aw [] w1 ((w1.alloc (.cells #[.int .i64 0, .int .i64 0, .int .i64 0, .int .i64 0, .string s, .slice none 0 0] 84)).alloc (.cells #[.pointer (some ⟨w1.heap.size, 0, none⟩)] 82)) := ((Aw.refl [] w1).alloc _).alloc _
      have hrd : Blk ((w1.alloc (.cells #[.int .i64 0, .int .i64 0, .int .i64 0, .int .i64 0, .string s, .slice none 0 0] 84)).alloc (.cells #[.pointer (some ⟨w1.heap.size, 0, none⟩)] 82)) w1.heap.size 84 #[.int .i64 0, .int .i64 0, .int .i64 0, .int .i64 0, .string s, .slice none 0 0] := Blk.alloc (Blk.new w1 _ _) _
      have hcb : Blk ((w1.alloc (.cells #[.int .i64 0, .int .i64 0, .int .i64 0, .int .i64 0, .string s, .slice none 0 0] 84)).alloc (.cells #[.pointer (some ⟨w1.heap.size, 0, none⟩)] 82)) (w1.heap.size + 1) 82 #[.pointer (some ⟨w1.heap.size, 0, none⟩)] := by
        have := Blk.new (w1.alloc (.cells #[.int .i64 0, .int .i64 0, .int .i64 0, .int .i64 0, .string s, .slice none 0 0] 84)) 82 #[.pointer (some ⟨w1.heap.size, 0, none⟩)]
        simpa using this
      have hx1 : w.heap.size < w1.heap.size := Blk.lt h1
      have h2 := Blk.aw h1 hA2 (by simp)
      generalize (w1.alloc (.cells #[.int .i64 0, .int .i64 0, .int .i64 0, .int .i64 0, .string s, .slice none 0 0] 84)).alloc (.cells #[.pointer (some ⟨w1.heap.size, 0, none⟩)] 82) = W0 at *
      generalize hr : w1.heap.size = r at *
      have hra : RA W0 W0 r 0 0 0 0 s (.slice none 0 0) [] := ⟨hrd, World.ownsRow_nil _ _ _ _, by simp, Aw.refl _ _, Blk.lt hrd⟩
      simp only [Bool.false_eq_true, if_false] at hrows
      obtain ⟨rows, hm, hr1, hr2⟩ := hrows
      have hrl := hr1.1
      have hml : rows.length = Q1.length := by rw [← hm]; simp
      have hr1' := hr1.aw hA2 (Nat.le_of_eq hr.symm) (by simp)
      have kC := evcon_any (r + 1) r s A n cc r rows W0 0 0 0 0 hra hcb (by omega) (by omega) hr1' (Nat.le_refl _) (by omega) (fun X hX => by
        have h5 := HO.out X.row (by rw [← hm]; exact List.mem_map.2 ⟨X, hX, rfl⟩)
        unfold RowOk at h5
        rw [hL] at h5
        exact ⟨(hr2 X hX).1.aw hA2 (Nat.le_of_eq hr.symm) (by simp), by omega, by omega, by omega⟩)
      rw [hm] at kC
      have hbW : Below w.heap.size w W0 := bl_any (bl_any hb0 hb1) (by rw [hr]; exact hA2.none_bel.mono (Nat.le_of_eq hr.symm))
      clear hr1 hr1' hr2 hrl hml hm HO hra hrd hlen kRw hL
      cases hE : evGo Q1 [] with
      | error y =>
        rw [hE] at hR kC
        try dsimp only at hR
        try dsimp only at kC
        subst hR
        clear hE
        go_wp2_with (first
          | (go_at_call 27; (with_reducible refine kC.mono ?_); rintro en w2 ⟨rfl, ⟨av, hf2⟩, hAx⟩; unfold Rf at hf2; have h3 := Blk.aw h2 hAx (by simp; omega); have hc3 := Blk.aw hcb hAx (by simp)))
        obtain ⟨⟨c0, c1, c2, c3, c4, c5⟩, _⟩ := hf2.facts
        have d0 := (Blk.cell hc3 0).trans rfl
        have e0 := (Blk.cell h3 0).trans rfl
        have e1 := (Blk.cell h3 1).trans rfl
        have e2 := (Blk.cell h3 2).trans rfl
        have e3 := (Blk.cell h3 3).trans rfl
        have f0 := Blk.frozen h3 0
        have f1 := Blk.frozen h3 1
        have f2 := Blk.frozen h3 2
        have f3 := Blk.frozen h3 3
        have hbl := hbW.trans (hAx.bel_of (B := w.heap.size) (by simp; omega) hbW.size)
        go_region
        all_goals
          go_wp2_with fail
          refine bodyPost_ret (v := .tuple #[.slice none 0 0, .agg #[.int .i64 (y.1 : Int), .int .i64 (fltO y.1 s y.2), .int .i64 (fltL y.1 s y.2), .int .i64 (fltC y.1 s y.2)]]) (by simp [results, Tryz.results15, go_sem, e0, e1, e2, e3]) rfl ⟨rfl, ?_⟩
          exact bl_set (bl_set (bl_set (bl_set hbl.drew (Nat.le_refl _) _) (Nat.le_refl _) _) (Nat.le_refl _) _) (Nat.le_refl _) _
      | ok evs =>
        rw [hE] at hR kC
        try dsimp only at hR
        try dsimp only at kC
        subst hR
        clear hE
        go_wp2_with (first
          | (go_at_call 27; (with_reducible refine kC.mono ?_); rintro en w2 ⟨rfl, av, acc, hmp, h5⟩; have h3 := Blk.aw h2 h5.aw (by simp; omega); have hc3 := Blk.aw hcb h5.aw (by simp); have d0 := (Blk.cell hc3 0).trans rfl; have d5 := h5.rr.facts.1.2.2.2.2.2; have e0 := (Blk.cell h3 0).trans rfl; have e1 := (Blk.cell h3 1).trans rfl; have e2 := (Blk.cell h3 2).trans rfl; have e3 := (Blk.cell h3 3).trans rfl; have f0 := Blk.frozen h3 0; have f1 := Blk.frozen h3 1; have f2 := Blk.frozen h3 2; have f3 := Blk.frozen h3 3))
        obtain ⟨A5, c5, rfl, hc5, hc6⟩ := ev_form2 h5.own
        have kz := ((((Aw.refl [w.heap.size] w2).setCell (p := ⟨w.heap.size, 0, none⟩) (.inl (by simp)) (.int .i64 0)).setCell (p := ⟨w.heap.size, 1, none⟩) (.inl (by simp)) (.int .i64 0)).setCell (p := ⟨w.heap.size, 2, none⟩) (.inl (by simp)) (.int .i64 0)).setCell (p := ⟨w.heap.size, 3, none⟩) (.inl (by simp)) (.int .i64 0)
        have hw0 : w.heap.size < W0.heap.size := by have := h5.rl; omega
        have hbl := hbW.trans (h5.aw.bel_of (B := w.heap.size) (by simp; omega) hbW.size)
        refine bodyPost_ret (v := .tuple #[.slice A5 acc.length c5, .agg #[.int .i64 0, .int .i64 0, .int .i64 0, .int .i64 0]]) (by simp [results, Tryz.results15, go_sem, e0, e1, e2, e3]) rfl ⟨⟨A5, acc.length, c5, rfl, hc5, hc6, acc, hmp, own_rows2 evCell_len (own_aw h5.own kz (fun g hg hm => by have := (h5.own.lt g hg).1; simp at hm; omega)) rfl, fun x hx => ((h5.lab x hx).1.awNe kz (Nat.le_refl _) (fun b off hb hn _ hm => by have := ((h5.lab x hx).2 hn b off hb).1; simp at hm; omega)).more kz.size⟩, ?_⟩
        exact bl_set (bl_set (bl_set (bl_set hbl (Nat.le_refl _) _) (Nat.le_refl _) _) (Nat.le_refl _) _) (Nat.le_refl _) _
end Go.Proofs.YtpknjngjkdnpiaaGreatDoor
