/- The walks of package template: a rule's text. -/
import Derived.Test.YtodgfapgmmjpcaaGreatDoorTplE
import Derived.Test.YtodgfapgmmjpcaaGreatDoorTplDfa
import Derived.Deep.RegionLaw
namespace Go.Proofs.YtodgfapgmmjpcaaGreatDoor
set_option linter.unusedVariables false
set_option linter.unusedSimpArgs false
open Go.RowKit
/-- The reader and its scanner. -/
structure TR (w0 w : World) (r g : Nat) (fv pv ev : Value) (s : ByteArray) (a : Nat) (no : Bool) : Prop where
  rd : Blk w r 69 #[.pointer (some ⟨g, 0, none⟩), fv, pv, ev]
  sc : Sc w g s a no
  aw : Aw [r, g] w0 w
section
variable {w0 w w' : World} {r g : Nat} {fv pv ev : Value} {s : ByteArray} {a a' : Nat} {no no' : Bool}
theorem TR.rg (h : TR w0 w r g fv pv ev s a no) : r ≠ g := Blk.ne_ h.rd h.sc (by decide)
theorem TR.facts (h : TR w0 w r g fv pv ev s a no) : (w.cell? ⟨r, 0, none⟩ = some (.pointer (some ⟨g, 0, none⟩)) ∧ w.cell? ⟨r, 1, none⟩ = some fv ∧ w.cell? ⟨r, 2, none⟩ = some pv ∧ w.cell? ⟨r, 3, none⟩ = some ev) ∧ w.frozen? ⟨r, 1, none⟩ = false ∧ w.frozen? ⟨r, 2, none⟩ = false ∧ w.frozen? ⟨r, 3, none⟩ = false :=
  ⟨⟨(Blk.cell h.rd 0).trans rfl, (Blk.cell h.rd 1).trans rfl, (Blk.cell h.rd 2).trans rfl, (Blk.cell h.rd 3).trans rfl⟩, Blk.frozen h.rd 1, Blk.frozen h.rd 2, Blk.frozen h.rd 3⟩
theorem TR.scan {S : List Nat} (h : TR w0 w r g fv pv ev s a no) (k : Aw S w w') (hs : Sc w' g s a' no') (hS : ∀ i, i ∈ S → i = g) : TR w0 w' r g fv pv ev s a' no' :=
  ⟨Blk.aw h.rd k (fun e => h.rg (hS _ e)), hs, h.aw.trans (k.mono (fun i hi => by rw [hS i hi]; simp))⟩
theorem TR.alloc (h : TR w0 w r g fv pv ev s a no) (o : Obj) : TR w0 (w.alloc o) r g fv pv ev s a no := ⟨Blk.alloc h.rd o, Blk.alloc h.sc o, h.aw.alloc o⟩
theorem TR.drew (h : TR w0 w r g fv pv ev s a no) : TR w0 w.drew r g fv pv ev s a no := ⟨h.rd, h.sc, h.aw.drew⟩
theorem TR.grown {row : Option Nat} (h : TR w0 w r g fv pv ev s a no) (k : w.grownBy w' row) (hr : ∀ i, row = some i → w0.heap.size ≤ i) (h1 : some r ≠ row) (h2 : some g ≠ row) : TR w0 w' r g fv pv ev s a no :=
  ⟨Blk.grown h.rd k h1, Blk.grown h.sc k h2, h.aw.grown k (fun i hi => .inr (hr i hi))⟩
theorem TR.setF (h : TR w0 w r g fv pv ev s a no) (v : Value) : TR w0 (w.setCell ⟨r, 1, none⟩ v) r g v pv ev s a no := ⟨Blk.set_ h.rd 1 v, Blk.far h.sc h.rg.symm v, h.aw.setCell (.inl (by simp)) v⟩
theorem TR.setP (h : TR w0 w r g fv pv ev s a no) (v : Value) : TR w0 (w.setCell ⟨r, 2, none⟩ v) r g fv v ev s a no := ⟨Blk.set_ h.rd 2 v, Blk.far h.sc h.rg.symm v, h.aw.setCell (.inl (by simp)) v⟩
theorem TR.setE (h : TR w0 w r g fv pv ev s a no) (v : Value) : TR w0 (w.setCell ⟨r, 3, none⟩ v) r g fv pv v s a no := ⟨Blk.set_ h.rd 3 v, Blk.far h.sc h.rg.symm v, h.aw.setCell (.inl (by simp)) v⟩
theorem TR.own {base : Nat} {e : TypeId} {size n : Nat} {v : Value} {xs : List Value} {S : List Nat} (h : TR w0 w r g fv pv ev s a no) (ho : w.ownsRow base e size v n xs) (k : Aw S w w') (h1 : e ≠ 69) (h2 : e ≠ 95) (hS : ∀ i, i ∈ S → i = r ∨ i = g) : w'.ownsRow base e size v n xs :=
  own_aw ho k (fun j hj hm => by
    rcases hS j hm with rfl | rfl
    · exact own_blk_ne ho h.rd h1 hj
    · exact own_blk_ne ho h.sc h2 hj)
theorem TR.nr {base : Nat} {e : TypeId} {size n : Nat} {v : Value} {xs : List Value} (h : TR w0 w r g fv pv ev s a no) (ho : w.ownsRow base e size v n xs) (h1 : e ≠ 69) : some r ≠ v.ownBlock := fun e => own_blk_ne ho h.rd h1 e.symm
theorem TR.ng {base : Nat} {e : TypeId} {size n : Nat} {v : Value} {xs : List Value} (h : TR w0 w r g fv pv ev s a no) (ho : w.ownsRow base e size v n xs) (h2 : e ≠ 95) : some g ≠ v.ownBlock := fun e => own_blk_ne ho h.sc h2 e.symm
end
theorem ext_cut' (s : ByteArray) (a b : Nat) : s.extract a b = mkS (cutL s.data.toList a b) := by
  apply bytes_ext
  rw [ext_bytes]; rfl
set_option maxRecDepth 100000 in
set_option maxHeartbeats 6400000 in
theorem filter_any (r g : Nat) (s : ByteArray) (F : List ByteArray) (a' : Nat) (no' : Bool) (w : World) (h : TR w w r g (.slice none 0 0) (.slice none 0 0) (.slice none 0 0) s 0 false) (hs : s.size ≤ 4611686018427387904) (hR : fltS s.data.toList = (F, a', no')) (hM : a' ≤ 1048576) :
    Calls Tryz.prog 31 #[.pointer (some ⟨r, 0, none⟩)] w fun e w' => e = .returned (.tuple #[]) ∧ ∃ fv, TR w w' r g fv (.slice none 0 0) (.slice none 0 0) s a' no' ∧ w'.ownsRow w.heap.size 9 1 fv F.length (F.flatMap strCell) := by
  have HL : Hid (s.data.toList.length = s.size) := Lib.hid (by simp)
  obtain ⟨i0, hi0, hz0, hz1, hz2⟩ := info_parts Tryz.infoString
  have hu : Tryz.prog.underlying 22 = some (.slice 9) := by kernel_rfl
  obtain ⟨⟨c0, c1, c2, c3⟩, f1, f2, f3⟩ := h.facts
  have kT0 := fun W hh => takes_any g s 0 false 35 W hh (Nat.zero_le _) hs
  unfold takeA at kT0
  unfold fltS at hR
  cases q0 : isB s.data.toList 0 false 35
  case true =>
    rw [q0, if_pos rfl] at kT0 hR
    obtain ⟨rfl, rfl, rfl⟩ : [] = F ∧ 1 = a' ∧ false = no' := by injection hR with e1 e2; injection e2 with e3 e4; exact ⟨e1, e3, e4⟩
    go_enter Tryz.func31, Tryz.ntmps31
    go_wp2_with (go_at_call 34; (with_reducible refine (kT0 _ h.sc).mono ?_); rintro e w1 ⟨rfl, h1, hA1⟩; have X1 := h.scan hA1 h1 (by simp))
    first
      | go_end0
      | refine bodyPost_ret (results_none rfl _ _ _) rfl ?_
    exact ⟨rfl, _, X1, World.ownsRow_nil _ _ _ _⟩
  case false =>
  rw [q0, if_neg (by simp)] at kT0 hR
  have H0 : Hid (fltGo s.data.toList (s.data.toList.length + 1) 0 false [] = (F, a', no')) := Lib.hid hR
  clear hR q0
  go_enter Tryz.func31, Tryz.ntmps31
  go_wp2_with (go_at_call 34; (with_reducible refine (kT0 _ h.sc).mono ?_); rintro e w1 ⟨rfl, h1, hA1⟩; have X1 := h.scan hA1 h1 (by simp))
  clear kT0 c0 c1 c2 c3 f1 f2 f3
  go_loopw [13] (fun _ wr => ∃ (a f : Nat) (acc : List ByteArray) (fv : Value), a ≤ s.size ∧ acc.length ≤ a ∧ s.size < f + a ∧ TR w wr r g fv (.slice none 0 0) (.slice none 0 0) s a false ∧ wr.ownsRow w.heap.size 9 1 fv acc.length (acc.flatMap strCell) ∧ Hid (fltGo s.data.toList f a false acc = (F, a', no'))) (fun _ wr => mOf wr g s)
  case atStart => exact ⟨0, s.data.toList.length + 1, [], _, by omega, by simp, by rw [HL.out]; omega, X1, World.ownsRow_nil _ _ _ _, H0⟩
  case round =>
    obtain ⟨a, f, acc, fv, ha, hacc, hf, hX, hown, HR⟩ := hrel
    clear H0 X1 h1 hA1
    obtain ⟨f, rfl⟩ : ∃ f', f = f' + 1 := ⟨f - 1, by omega⟩
    have hm0 := hX.sc.mOf
    obtain ⟨⟨c0, c1, c2, c3⟩, f1, f2, f3⟩ := hX.facts
    have hle := fltGo_le (l := s.data.toList) (f + 1) a false acc (by rw [HL.out]; exact ha)
    rw [HR.out] at hle
    simp only at hle
    have ham : a ≤ 1048576 := by omega
    have hwz := hX.aw.size
    have kS := fun W hh => stopped_any g s a false W hh
    have kT := fun W hh => takes_any g s a false 42 W hh ha hs
    unfold takeA at kT
    have hR := HR.out
    rw [fltGo, if_neg (by simp)] at hR
    clear HR hle
    cases q1 : isB s.data.toList a false 42
    case true =>
      have hlt := (isB_lt q1).1
      rw [HL.out] at hlt
      rw [q1, if_pos rfl] at kT hR
      have kU := fun W hh => takes_any g s (a + 1) false 46 W hh (by omega) hs
      unfold takeA at kU
      clear q1
      cases q2 : isB s.data.toList (a + 1) false 46
      case true =>
        have hlt2 := (isB_lt q2).1
        rw [HL.out] at hlt2
        rw [q2, if_pos rfl] at kU hR
        have HN := Lib.hid hR
        clear hR q2
        go_wp2_with (first | (go_at_call 36; (with_reducible refine (kS _ hX.sc).mono ?_); rintro e w2 ⟨rfl, rfl⟩) | (go_at_call 34; (with_reducible refine (kT _ hX.sc).mono ?_); rintro e w3 ⟨rfl, h3, hA3⟩; have X3 := hX.scan hA3 h3 (by simp); have O3 := hX.own hown hA3 (by decide) (by decide) (by simp); have z3 := X3.aw.size; obtain ⟨⟨d0, d1, d2, d3⟩, g1, g2, g3⟩ := X3.facts) | (at_builtin; go_loud (refine wpList_append_lies _ (by rfl) _ _ _ (by rfl) w.heap.size 9 i0 _ 1 16 hu hi0 hz0 hz1 hz2 rfl (by omega) _ acc.length (acc.flatMap strCell) (by rfl) (O3.alloc _) ⟨w3.heap.size, 0, none⟩ 1 1 [.string ⟨#[42]⟩] (by rfl) (by rfl) (World.news_of_block (blk_at (by simp))) (by simp [Value.oneCell']) (by omega) (by simp [maxLen]; omega) (by omega) (by simp; omega) (w3.heap.size + 1) (by simp) ?_); intro gg capg w4 hown4 hgrow hat hlt4; have XA := X3.alloc (.cells #[.string ⟨#[42]⟩] 9); have OA := O3.alloc (.cells #[.string ⟨#[42]⟩] 9); have X4 := XA.grown hgrow (fun j e => (OA.lt _ e).1) (XA.nr OA (by decide)) (XA.ng OA (by decide)); obtain ⟨⟨b0, b1, b2, b3⟩, k1, k2, k3⟩ := X4.facts; have Y4 := X4.setF (.slice (some ⟨gg, 0, none⟩) (acc.length + 1) capg); have O4 := X4.own hown4 ((Aw.refl [r] w4).setCell (p := ⟨r, 1, none⟩) (.inl (by simp)) (.slice (some ⟨gg, 0, none⟩) (acc.length + 1) capg)) (by decide) (by decide) (by simp); obtain ⟨⟨t0, t1, t2, t3⟩, _⟩ := Y4.facts) | (go_at_call 34; (with_reducible refine (kU _ Y4.sc).mono ?_); rintro e w7 ⟨rfl, h7, hA7⟩; have X5 := Y4.scan hA7 h7 (by simp); have O5 := Y4.own O4 hA7 (by decide) (by decide) (by simp)))
        refine ⟨⟨a + 2, f, acc ++ [wEvery], _, by omega, by simp; omega, by omega, X5, (by rw [List.length_append, List.flatMap_append]; exact O5), HN⟩, ?_⟩
        rw [X5.sc.mOf, hm0]
        simp; omega
      case false =>
        rw [q2, if_neg (by simp)] at kU hR
        obtain ⟨rfl, rfl, rfl⟩ : acc ++ [wEvery] = F ∧ a + 1 = a' ∧ false = no' := by injection hR with e1 e2; injection e2 with e3 e4; exact ⟨e1, e3, e4⟩
        clear hR q2
        go_wp2_with (first | (go_at_call 36; (with_reducible refine (kS _ hX.sc).mono ?_); rintro e w2 ⟨rfl, rfl⟩) | (go_at_call 34; (with_reducible refine (kT _ hX.sc).mono ?_); rintro e w3 ⟨rfl, h3, hA3⟩; have X3 := hX.scan hA3 h3 (by simp); have O3 := hX.own hown hA3 (by decide) (by decide) (by simp); have z3 := X3.aw.size; obtain ⟨⟨d0, d1, d2, d3⟩, g1, g2, g3⟩ := X3.facts) | (at_builtin; go_loud (refine wpList_append_lies _ (by rfl) _ _ _ (by rfl) w.heap.size 9 i0 _ 1 16 hu hi0 hz0 hz1 hz2 rfl (by omega) _ acc.length (acc.flatMap strCell) (by rfl) (O3.alloc _) ⟨w3.heap.size, 0, none⟩ 1 1 [.string ⟨#[42]⟩] (by rfl) (by rfl) (World.news_of_block (blk_at (by simp))) (by simp [Value.oneCell']) (by omega) (by simp [maxLen]; omega) (by omega) (by simp; omega) (w3.heap.size + 1) (by simp) ?_); intro gg capg w4 hown4 hgrow hat hlt4; have XA := X3.alloc (.cells #[.string ⟨#[42]⟩] 9); have OA := O3.alloc (.cells #[.string ⟨#[42]⟩] 9); have X4 := XA.grown hgrow (fun j e => (OA.lt _ e).1) (XA.nr OA (by decide)) (XA.ng OA (by decide)); obtain ⟨⟨b0, b1, b2, b3⟩, k1, k2, k3⟩ := X4.facts; have Y4 := X4.setF (.slice (some ⟨gg, 0, none⟩) (acc.length + 1) capg); have O4 := X4.own hown4 ((Aw.refl [r] w4).setCell (p := ⟨r, 1, none⟩) (.inl (by simp)) (.slice (some ⟨gg, 0, none⟩) (acc.length + 1) capg)) (by decide) (by decide) (by simp); obtain ⟨⟨t0, t1, t2, t3⟩, _⟩ := Y4.facts) | (go_at_call 34; (with_reducible refine (kU _ Y4.sc).mono ?_); rintro e w7 ⟨rfl, h7, hA7⟩; have X5 := Y4.scan hA7 h7 (by simp); have O5 := Y4.own O4 hA7 (by decide) (by decide) (by simp)))
        first
          | go_end0
          | refine bodyPost_ret (results_none rfl _ _ _) rfl ?_
        exact ⟨rfl, _, X5, by rw [List.length_append, List.flatMap_append]; exact O5⟩
    case false =>
      rw [q1, if_neg (by simp)] at kT hR
      obtain ⟨b, nb, hb⟩ : ∃ b nb, someS s.data.toList dtNode a false = (b, nb) := ⟨_, _, rfl⟩
      have hle := someS_le s.data.toList dtNode a false (by rw [HL.out]; exact ha)
      have kN := fun W hh => some_tnode g s a false b nb W hh ha hs hb
      rw [hb, HL.out] at hle
      rw [hb] at hR
      simp only at hR hle
      rw [ext_cut'] at kN
      generalize mkS (cutL s.data.toList a b) = nd at kN hR
      have kU := fun W hh => takes_any g s b nb 46 W hh (by omega) hs
      unfold takeA at kU
      clear q1 hb
      cases q2 : isB s.data.toList b nb 46
      case true =>
        obtain ⟨hlt2, hnb, _⟩ := isB_lt q2
        subst hnb
        rw [HL.out] at hlt2
        rw [q2, if_pos rfl] at kU hR
        have HN := Lib.hid hR
        clear hR q2
        go_wp2_with (first | (go_at_call 36; (with_reducible refine (kS _ hX.sc).mono ?_); rintro e w2 ⟨rfl, rfl⟩) | (go_at_call 34; (with_reducible refine (kT _ hX.sc).mono ?_); rintro e w3 ⟨rfl, h3, hA3⟩; have X3 := hX.scan hA3 h3 (by simp); have O3 := hX.own hown hA3 (by decide) (by decide) (by simp); have z3 := X3.aw.size; obtain ⟨⟨d0, d1, d2, d3⟩, g1, g2, g3⟩ := X3.facts) | (go_at_call 58; (with_reducible refine (kN _ X3.sc).mono ?_); rintro e w6 ⟨rfl, h6, hA6⟩; have X6 := X3.scan hA6 h6 (by simp); have O6 := X3.own O3 hA6 (by decide) (by decide) (by simp); have z6 := X6.aw.size; obtain ⟨⟨p0, p1, p2, p3⟩, s1, s2, s3⟩ := X6.facts) | (at_builtin; go_loud (refine wpList_append_lies _ (by rfl) _ _ _ (by rfl) w.heap.size 9 i0 _ 1 16 hu hi0 hz0 hz1 hz2 rfl (by omega) _ acc.length (acc.flatMap strCell) (by rfl) (O6.alloc _) ⟨w6.heap.size, 0, none⟩ 1 1 [.string nd] (by rfl) (by rfl) (World.news_of_block (blk_at (by simp))) (by simp [Value.oneCell']) (by omega) (by simp [maxLen]; omega) (by omega) (by simp; omega) (w6.heap.size + 1) (by simp) ?_); intro gg capg w4 hown4 hgrow hat hlt4; have XA := X6.alloc (.cells #[.string nd] 9); have OA := O6.alloc (.cells #[.string nd] 9); have X4 := XA.grown hgrow (fun j e => (OA.lt _ e).1) (XA.nr OA (by decide)) (XA.ng OA (by decide)); obtain ⟨⟨b0, b1, b2, b3⟩, k1, k2, k3⟩ := X4.facts; have Y4 := X4.setF (.slice (some ⟨gg, 0, none⟩) (acc.length + 1) capg); have O4 := X4.own hown4 ((Aw.refl [r] w4).setCell (p := ⟨r, 1, none⟩) (.inl (by simp)) (.slice (some ⟨gg, 0, none⟩) (acc.length + 1) capg)) (by decide) (by decide) (by simp); obtain ⟨⟨t0, t1, t2, t3⟩, _⟩ := Y4.facts) | (go_at_call 34; (with_reducible refine (kU _ Y4.sc).mono ?_); rintro e w7 ⟨rfl, h7, hA7⟩; have X5 := Y4.scan hA7 h7 (by simp); have O5 := Y4.own O4 hA7 (by decide) (by decide) (by simp)))
        refine ⟨⟨b + 1, f, acc ++ [nd], _, by omega, by simp; omega, by omega, X5, (by rw [List.length_append, List.flatMap_append]; exact O5), HN⟩, ?_⟩
        rw [X5.sc.mOf, hm0]
        simp; omega
      case false =>
        rw [q2, if_neg (by simp)] at kU hR
        obtain ⟨rfl, rfl, rfl⟩ : acc ++ [nd] = F ∧ b = a' ∧ nb = no' := by injection hR with e1 e2; injection e2 with e3 e4; exact ⟨e1, e3, e4⟩
        clear hR q2
        go_wp2_with (first | (go_at_call 36; (with_reducible refine (kS _ hX.sc).mono ?_); rintro e w2 ⟨rfl, rfl⟩) | (go_at_call 34; (with_reducible refine (kT _ hX.sc).mono ?_); rintro e w3 ⟨rfl, h3, hA3⟩; have X3 := hX.scan hA3 h3 (by simp); have O3 := hX.own hown hA3 (by decide) (by decide) (by simp); have z3 := X3.aw.size; obtain ⟨⟨d0, d1, d2, d3⟩, g1, g2, g3⟩ := X3.facts) | (go_at_call 58; (with_reducible refine (kN _ X3.sc).mono ?_); rintro e w6 ⟨rfl, h6, hA6⟩; have X6 := X3.scan hA6 h6 (by simp); have O6 := X3.own O3 hA6 (by decide) (by decide) (by simp); have z6 := X6.aw.size; obtain ⟨⟨p0, p1, p2, p3⟩, s1, s2, s3⟩ := X6.facts) | (at_builtin; go_loud (refine wpList_append_lies _ (by rfl) _ _ _ (by rfl) w.heap.size 9 i0 _ 1 16 hu hi0 hz0 hz1 hz2 rfl (by omega) _ acc.length (acc.flatMap strCell) (by rfl) (O6.alloc _) ⟨w6.heap.size, 0, none⟩ 1 1 [.string nd] (by rfl) (by rfl) (World.news_of_block (blk_at (by simp))) (by simp [Value.oneCell']) (by omega) (by simp [maxLen]; omega) (by omega) (by simp; omega) (w6.heap.size + 1) (by simp) ?_); intro gg capg w4 hown4 hgrow hat hlt4; have XA := X6.alloc (.cells #[.string nd] 9); have OA := O6.alloc (.cells #[.string nd] 9); have X4 := XA.grown hgrow (fun j e => (OA.lt _ e).1) (XA.nr OA (by decide)) (XA.ng OA (by decide)); obtain ⟨⟨b0, b1, b2, b3⟩, k1, k2, k3⟩ := X4.facts; have Y4 := X4.setF (.slice (some ⟨gg, 0, none⟩) (acc.length + 1) capg); have O4 := X4.own hown4 ((Aw.refl [r] w4).setCell (p := ⟨r, 1, none⟩) (.inl (by simp)) (.slice (some ⟨gg, 0, none⟩) (acc.length + 1) capg)) (by decide) (by decide) (by simp); obtain ⟨⟨t0, t1, t2, t3⟩, _⟩ := Y4.facts) | (go_at_call 34; (with_reducible refine (kU _ Y4.sc).mono ?_); rintro e w7 ⟨rfl, h7, hA7⟩; have X5 := Y4.scan hA7 h7 (by simp); have O5 := Y4.own O4 hA7 (by decide) (by decide) (by simp)))
        first
          | go_end0
          | refine bodyPost_ret (results_none rfl _ _ _) rfl ?_
        exact ⟨rfl, _, X5, by rw [List.length_append, List.flatMap_append]; exact O5⟩
set_option maxRecDepth 100000 in
set_option maxHeartbeats 6400000 in
theorem parts_any (r g : Nat) (fv : Value) (s : ByteArray) (a0 : Nat) (no0 : Bool) (F : List ByteArray) (a' : Nat) (no' : Bool) (w : World) (h : TR w w r g fv (.slice none 0 0) (.slice none 0 0) s a0 no0) (ha0 : a0 ≤ s.size) (hs : s.size ≤ 4611686018427387904) (hR : prtGo s.data.toList (s.data.toList.length + 1) a0 no0 [] = (F, a', no')) (hM : a' ≤ 1048576) :
    Calls Tryz.prog 33 #[.pointer (some ⟨r, 0, none⟩)] w fun e w' => e = .returned (.tuple #[]) ∧ ∃ pv, TR w w' r g fv pv (.slice none 0 0) s a' no' ∧ w'.ownsRow w.heap.size 9 1 pv F.length (F.flatMap strCell) := by
  have HL : Hid (s.data.toList.length = s.size) := Lib.hid (by simp)
  obtain ⟨i0, hi0, hz0, hz1, hz2⟩ := info_parts Tryz.infoString
  have hu : Tryz.prog.underlying 22 = some (.slice 9) := by kernel_rfl
  obtain ⟨⟨c0, c1, c2, c3⟩, f1, f2, f3⟩ := h.facts
  cases no0
  case true =>
    have kS := fun W hh => stopped_any g s a0 true W hh
    rw [prtGo, if_pos rfl] at hR
    obtain ⟨rfl, rfl, rfl⟩ : [] = F ∧ a0 = a' ∧ true = no' := by injection hR with e1 e2; injection e2 with e3 e4; exact ⟨e1, e3, e4⟩
    go_enter Tryz.func33, Tryz.ntmps33
    go_wp2_with fail
    refine wp_loop_rounds 1 ?_
    rw [rounds_succ]
    go_wp2_with (go_at_call 36; (with_reducible refine (kS _ h.sc).mono ?_); rintro e w2 ⟨rfl, rfl⟩)
    first
      | go_end0
      | refine bodyPost_ret (results_none rfl _ _ _) rfl ?_
    exact ⟨rfl, _, h, World.ownsRow_nil _ _ _ _⟩
  case false =>
  have H0 : Hid (prtGo s.data.toList (s.data.toList.length + 1) a0 false [] = (F, a', no')) := Lib.hid hR
  clear hR
  go_enter Tryz.func33, Tryz.ntmps33
  go_wp2_with fail
  clear c0 c1 c2 c3 f1 f2 f3
  go_loopw [9] (fun _ wr => ∃ (a f : Nat) (acc : List ByteArray) (pv : Value), a ≤ s.size ∧ acc.length ≤ a ∧ s.size < f + a ∧ TR w wr r g fv pv (.slice none 0 0) s a false ∧ wr.ownsRow w.heap.size 9 1 pv acc.length (acc.flatMap strCell) ∧ Hid (prtGo s.data.toList f a false acc = (F, a', no'))) (fun _ wr => mOf wr g s)
  case atStart => exact ⟨a0, s.data.toList.length + 1, [], _, ha0, by simp, by rw [HL.out]; omega, h, World.ownsRow_nil _ _ _ _, H0⟩
  case round =>
    obtain ⟨a, f, acc, pv, ha, hacc, hf, hX, hown, HR⟩ := hrel
    clear H0
    obtain ⟨f, rfl⟩ : ∃ f', f = f' + 1 := ⟨f - 1, by omega⟩
    have hm0 := hX.sc.mOf
    obtain ⟨⟨c0, c1, c2, c3⟩, f1, f2, f3⟩ := hX.facts
    have hle := prtGo_le (l := s.data.toList) (f + 1) a false acc (by rw [HL.out]; exact ha)
    rw [HR.out] at hle
    simp only at hle
    have ham : a ≤ 1048576 := by omega
    have hwz := hX.aw.size
    have kS := fun W hh => stopped_any g s a false W hh
    have hR := HR.out
    rw [prtGo, if_neg (by simp)] at hR
    clear HR hle
    obtain ⟨b, nb, hb⟩ : ∃ b nb, someS s.data.toList dtNode a false = (b, nb) := ⟨_, _, rfl⟩
    have hle := someS_le s.data.toList dtNode a false (by rw [HL.out]; exact ha)
    have kN := fun W hh => some_tnode g s a false b nb W hh ha hs hb
    rw [hb, HL.out] at hle
    rw [hb] at hR
    simp only at hR hle
    rw [ext_cut'] at kN
    generalize mkS (cutL s.data.toList a b) = nd at kN hR
    have kT := fun W hh => takes_any g s b nb 42 W hh (by omega) hs
    have kU := fun W hh => takes_any g s b nb 46 W hh (by omega) hs
    unfold takeA at kT kU
    rw [isM_toL] at hR
    clear hb
    cases qm : (nd.toList == [109, 101, 116, 114, 105, 99])
    case true =>
      rw [qm] at hR
      cases q1 : isB s.data.toList b nb 42
      case true =>
        obtain ⟨hlt1, hnb, _⟩ := isB_lt q1
        subst hnb
        rw [HL.out] at hlt1
        rw [q1, if_pos rfl] at kT
        rw [q1, if_pos (show (true && true) = true from rfl)] at hR
        obtain ⟨rfl, rfl, rfl⟩ : acc ++ [wTail] = F ∧ b + 1 = a' ∧ false = no' := by injection hR with e1 e2; injection e2 with e3 e4; exact ⟨e1, e3, e4⟩
        clear hR q1 kU
        go_wp2_with (first | (go_at_call 36; (with_reducible refine (kS _ hX.sc).mono ?_); rintro e w2 ⟨rfl, rfl⟩) | (go_at_call 58; (with_reducible refine (kN _ hX.sc).mono ?_); rintro e w6 ⟨rfl, h6, hA6⟩; have X6 := hX.scan hA6 h6 (by simp); have O6 := hX.own hown hA6 (by decide) (by decide) (by simp); have z6 := X6.aw.size; obtain ⟨⟨p0, p1, p2, p3⟩, s1, s2, s3⟩ := X6.facts) | (go_at_call 34; (with_reducible refine (kT _ X6.sc).mono ?_); rintro e w3 ⟨rfl, h3, hA3⟩; have X3 := X6.scan hA3 h3 (by simp); have O3 := X6.own O6 hA3 (by decide) (by decide) (by simp); have z3 := X3.aw.size; obtain ⟨⟨d0, d1, d2, d3⟩, g1, g2, g3⟩ := X3.facts) | (at_builtin; go_loud (refine wpList_append_lies _ (by rfl) _ _ _ (by rfl) w.heap.size 9 i0 _ 1 16 hu hi0 hz0 hz1 hz2 rfl (by omega) _ acc.length (acc.flatMap strCell) (by rfl) (O3.alloc _) ⟨w3.heap.size, 0, none⟩ 1 1 [.string ⟨#[109, 101, 116, 114, 105, 99, 42]⟩] (by rfl) (by rfl) (World.news_of_block (blk_at (by simp))) (by simp [Value.oneCell']) (by omega) (by simp [maxLen]; omega) (by omega) (by simp; omega) (w3.heap.size + 1) (by simp) ?_); intro gg capg w4 hown4 hgrow hat hlt4; have XA := X3.alloc (.cells #[.string ⟨#[109, 101, 116, 114, 105, 99, 42]⟩] 9); have OA := O3.alloc (.cells #[.string ⟨#[109, 101, 116, 114, 105, 99, 42]⟩] 9); have X4 := XA.grown hgrow (fun j e => (OA.lt _ e).1) (XA.nr OA (by decide)) (XA.ng OA (by decide)); obtain ⟨⟨b0, b1, b2, b3⟩, k1, k2, k3⟩ := X4.facts; have Y4 := X4.setP (.slice (some ⟨gg, 0, none⟩) (acc.length + 1) capg); have O4 := X4.own hown4 ((Aw.refl [r] w4).setCell (p := ⟨r, 2, none⟩) (.inl (by simp)) (.slice (some ⟨gg, 0, none⟩) (acc.length + 1) capg)) (by decide) (by decide) (by simp); obtain ⟨⟨t0, t1, t2, t3⟩, _⟩ := Y4.facts))
        first
          | go_end0
          | refine bodyPost_ret (results_none rfl _ _ _) rfl ?_
        exact ⟨rfl, _, Y4, by rw [List.length_append, List.flatMap_append]; exact O4⟩
      case false =>
        rw [q1, if_neg (by simp)] at kT
        rw [q1, if_neg (by simp)] at hR
        clear q1
        cases q2 : isB s.data.toList b nb 46
        case true =>
          obtain ⟨hlt2, hnb, _⟩ := isB_lt q2
          subst hnb
          rw [HL.out] at hlt2
          rw [q2, if_pos rfl] at kU hR
          have HN := Lib.hid hR
          clear hR q2
          go_wp2_with (first | (go_at_call 36; (with_reducible refine (kS _ hX.sc).mono ?_); rintro e w2 ⟨rfl, rfl⟩) | (go_at_call 58; (with_reducible refine (kN _ hX.sc).mono ?_); rintro e w6 ⟨rfl, h6, hA6⟩; have X6 := hX.scan hA6 h6 (by simp); have O6 := hX.own hown hA6 (by decide) (by decide) (by simp); have z6 := X6.aw.size; obtain ⟨⟨p0, p1, p2, p3⟩, s1, s2, s3⟩ := X6.facts) | (go_at_call 34; (with_reducible refine (kT _ X6.sc).mono ?_); rintro e w3 ⟨rfl, h3, hA3⟩; have X3 := X6.scan hA3 h3 (by simp); have O3 := X6.own O6 hA3 (by decide) (by decide) (by simp); have z3 := X3.aw.size; obtain ⟨⟨d0, d1, d2, d3⟩, g1, g2, g3⟩ := X3.facts) | (at_builtin; go_loud (refine wpList_append_lies _ (by rfl) _ _ _ (by rfl) w.heap.size 9 i0 _ 1 16 hu hi0 hz0 hz1 hz2 rfl (by omega) _ acc.length (acc.flatMap strCell) (by rfl) (O3.alloc _) ⟨w3.heap.size, 0, none⟩ 1 1 [.string nd] (by rfl) (by rfl) (World.news_of_block (blk_at (by simp))) (by simp [Value.oneCell']) (by omega) (by simp [maxLen]; omega) (by omega) (by simp; omega) (w3.heap.size + 1) (by simp) ?_); intro gg capg w4 hown4 hgrow hat hlt4; have XA := X3.alloc (.cells #[.string nd] 9); have OA := O3.alloc (.cells #[.string nd] 9); have X4 := XA.grown hgrow (fun j e => (OA.lt _ e).1) (XA.nr OA (by decide)) (XA.ng OA (by decide)); obtain ⟨⟨b0, b1, b2, b3⟩, k1, k2, k3⟩ := X4.facts; have Y4 := X4.setP (.slice (some ⟨gg, 0, none⟩) (acc.length + 1) capg); have O4 := X4.own hown4 ((Aw.refl [r] w4).setCell (p := ⟨r, 2, none⟩) (.inl (by simp)) (.slice (some ⟨gg, 0, none⟩) (acc.length + 1) capg)) (by decide) (by decide) (by simp); obtain ⟨⟨t0, t1, t2, t3⟩, _⟩ := Y4.facts) | (go_at_call 34; (with_reducible refine (kU _ Y4.sc).mono ?_); rintro e w7 ⟨rfl, h7, hA7⟩; have X5 := Y4.scan hA7 h7 (by simp); have O5 := Y4.own O4 hA7 (by decide) (by decide) (by simp)))
          refine ⟨⟨b + 1, f, acc ++ [nd], _, by omega, by simp; omega, by omega, X5, (by rw [List.length_append, List.flatMap_append]; exact O5), HN⟩, ?_⟩
          rw [X5.sc.mOf, hm0]
          simp; omega
        case false =>
          rw [q2, if_neg (by simp)] at kU hR
          obtain ⟨rfl, rfl, rfl⟩ : acc ++ [nd] = F ∧ b = a' ∧ nb = no' := by injection hR with e1 e2; injection e2 with e3 e4; exact ⟨e1, e3, e4⟩
          clear hR q2
          go_wp2_with (first | (go_at_call 36; (with_reducible refine (kS _ hX.sc).mono ?_); rintro e w2 ⟨rfl, rfl⟩) | (go_at_call 58; (with_reducible refine (kN _ hX.sc).mono ?_); rintro e w6 ⟨rfl, h6, hA6⟩; have X6 := hX.scan hA6 h6 (by simp); have O6 := hX.own hown hA6 (by decide) (by decide) (by simp); have z6 := X6.aw.size; obtain ⟨⟨p0, p1, p2, p3⟩, s1, s2, s3⟩ := X6.facts) | (go_at_call 34; (with_reducible refine (kT _ X6.sc).mono ?_); rintro e w3 ⟨rfl, h3, hA3⟩; have X3 := X6.scan hA3 h3 (by simp); have O3 := X6.own O6 hA3 (by decide) (by decide) (by simp); have z3 := X3.aw.size; obtain ⟨⟨d0, d1, d2, d3⟩, g1, g2, g3⟩ := X3.facts) | (at_builtin; go_loud (refine wpList_append_lies _ (by rfl) _ _ _ (by rfl) w.heap.size 9 i0 _ 1 16 hu hi0 hz0 hz1 hz2 rfl (by omega) _ acc.length (acc.flatMap strCell) (by rfl) (O3.alloc _) ⟨w3.heap.size, 0, none⟩ 1 1 [.string nd] (by rfl) (by rfl) (World.news_of_block (blk_at (by simp))) (by simp [Value.oneCell']) (by omega) (by simp [maxLen]; omega) (by omega) (by simp; omega) (w3.heap.size + 1) (by simp) ?_); intro gg capg w4 hown4 hgrow hat hlt4; have XA := X3.alloc (.cells #[.string nd] 9); have OA := O3.alloc (.cells #[.string nd] 9); have X4 := XA.grown hgrow (fun j e => (OA.lt _ e).1) (XA.nr OA (by decide)) (XA.ng OA (by decide)); obtain ⟨⟨b0, b1, b2, b3⟩, k1, k2, k3⟩ := X4.facts; have Y4 := X4.setP (.slice (some ⟨gg, 0, none⟩) (acc.length + 1) capg); have O4 := X4.own hown4 ((Aw.refl [r] w4).setCell (p := ⟨r, 2, none⟩) (.inl (by simp)) (.slice (some ⟨gg, 0, none⟩) (acc.length + 1) capg)) (by decide) (by decide) (by simp); obtain ⟨⟨t0, t1, t2, t3⟩, _⟩ := Y4.facts) | (go_at_call 34; (with_reducible refine (kU _ Y4.sc).mono ?_); rintro e w7 ⟨rfl, h7, hA7⟩; have X5 := Y4.scan hA7 h7 (by simp); have O5 := Y4.own O4 hA7 (by decide) (by decide) (by simp)))
          first
            | go_end0
            | refine bodyPost_ret (results_none rfl _ _ _) rfl ?_
          exact ⟨rfl, _, X5, by rw [List.length_append, List.flatMap_append]; exact O5⟩
    case false =>
      rw [qm, Bool.false_and, if_neg (by simp)] at hR
      clear kT
      cases q2 : isB s.data.toList b nb 46
      case true =>
        obtain ⟨hlt2, hnb, _⟩ := isB_lt q2
        subst hnb
        rw [HL.out] at hlt2
        rw [q2, if_pos rfl] at kU hR
        have HN := Lib.hid hR
        clear hR q2
        go_wp2_with (first | (go_at_call 36; (with_reducible refine (kS _ hX.sc).mono ?_); rintro e w2 ⟨rfl, rfl⟩) | (go_at_call 58; (with_reducible refine (kN _ hX.sc).mono ?_); rintro e w6 ⟨rfl, h6, hA6⟩; have X6 := hX.scan hA6 h6 (by simp); have O6 := hX.own hown hA6 (by decide) (by decide) (by simp); have z6 := X6.aw.size; obtain ⟨⟨p0, p1, p2, p3⟩, s1, s2, s3⟩ := X6.facts) | (at_builtin; go_loud (refine wpList_append_lies _ (by rfl) _ _ _ (by rfl) w.heap.size 9 i0 _ 1 16 hu hi0 hz0 hz1 hz2 rfl (by omega) _ acc.length (acc.flatMap strCell) (by rfl) (O6.alloc _) ⟨w6.heap.size, 0, none⟩ 1 1 [.string nd] (by rfl) (by rfl) (World.news_of_block (blk_at (by simp))) (by simp [Value.oneCell']) (by omega) (by simp [maxLen]; omega) (by omega) (by simp; omega) (w6.heap.size + 1) (by simp) ?_); intro gg capg w4 hown4 hgrow hat hlt4; have XA := X6.alloc (.cells #[.string nd] 9); have OA := O6.alloc (.cells #[.string nd] 9); have X4 := XA.grown hgrow (fun j e => (OA.lt _ e).1) (XA.nr OA (by decide)) (XA.ng OA (by decide)); obtain ⟨⟨b0, b1, b2, b3⟩, k1, k2, k3⟩ := X4.facts; have Y4 := X4.setP (.slice (some ⟨gg, 0, none⟩) (acc.length + 1) capg); have O4 := X4.own hown4 ((Aw.refl [r] w4).setCell (p := ⟨r, 2, none⟩) (.inl (by simp)) (.slice (some ⟨gg, 0, none⟩) (acc.length + 1) capg)) (by decide) (by decide) (by simp); obtain ⟨⟨t0, t1, t2, t3⟩, _⟩ := Y4.facts) | (go_at_call 34; (with_reducible refine (kU _ Y4.sc).mono ?_); rintro e w7 ⟨rfl, h7, hA7⟩; have X5 := Y4.scan hA7 h7 (by simp); have O5 := Y4.own O4 hA7 (by decide) (by decide) (by simp)))
        refine ⟨⟨b + 1, f, acc ++ [nd], _, by omega, by simp; omega, by omega, X5, (by rw [List.length_append, List.flatMap_append]; exact O5), HN⟩, ?_⟩
        rw [X5.sc.mOf, hm0]
        simp; omega
      case false =>
        rw [q2, if_neg (by simp)] at kU hR
        obtain ⟨rfl, rfl, rfl⟩ : acc ++ [nd] = F ∧ b = a' ∧ nb = no' := by injection hR with e1 e2; injection e2 with e3 e4; exact ⟨e1, e3, e4⟩
        clear hR q2
        go_wp2_with (first | (go_at_call 36; (with_reducible refine (kS _ hX.sc).mono ?_); rintro e w2 ⟨rfl, rfl⟩) | (go_at_call 58; (with_reducible refine (kN _ hX.sc).mono ?_); rintro e w6 ⟨rfl, h6, hA6⟩; have X6 := hX.scan hA6 h6 (by simp); have O6 := hX.own hown hA6 (by decide) (by decide) (by simp); have z6 := X6.aw.size; obtain ⟨⟨p0, p1, p2, p3⟩, s1, s2, s3⟩ := X6.facts) | (at_builtin; go_loud (refine wpList_append_lies _ (by rfl) _ _ _ (by rfl) w.heap.size 9 i0 _ 1 16 hu hi0 hz0 hz1 hz2 rfl (by omega) _ acc.length (acc.flatMap strCell) (by rfl) (O6.alloc _) ⟨w6.heap.size, 0, none⟩ 1 1 [.string nd] (by rfl) (by rfl) (World.news_of_block (blk_at (by simp))) (by simp [Value.oneCell']) (by omega) (by simp [maxLen]; omega) (by omega) (by simp; omega) (w6.heap.size + 1) (by simp) ?_); intro gg capg w4 hown4 hgrow hat hlt4; have XA := X6.alloc (.cells #[.string nd] 9); have OA := O6.alloc (.cells #[.string nd] 9); have X4 := XA.grown hgrow (fun j e => (OA.lt _ e).1) (XA.nr OA (by decide)) (XA.ng OA (by decide)); obtain ⟨⟨b0, b1, b2, b3⟩, k1, k2, k3⟩ := X4.facts; have Y4 := X4.setP (.slice (some ⟨gg, 0, none⟩) (acc.length + 1) capg); have O4 := X4.own hown4 ((Aw.refl [r] w4).setCell (p := ⟨r, 2, none⟩) (.inl (by simp)) (.slice (some ⟨gg, 0, none⟩) (acc.length + 1) capg)) (by decide) (by decide) (by simp); obtain ⟨⟨t0, t1, t2, t3⟩, _⟩ := Y4.facts) | (go_at_call 34; (with_reducible refine (kU _ Y4.sc).mono ?_); rintro e w7 ⟨rfl, h7, hA7⟩; have X5 := Y4.scan hA7 h7 (by simp); have O5 := Y4.own O4 hA7 (by decide) (by decide) (by simp)))
        first
          | go_end0
          | refine bodyPost_ret (results_none rfl _ _ _) rfl ?_
        exact ⟨rfl, _, X5, by rw [List.length_append, List.flatMap_append]; exact O5⟩
end Go.Proofs.YtodgfapgmmjpcaaGreatDoor
