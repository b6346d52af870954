/- The walks of package template: a rule's text: labels; a rule whose texts are its own; Compile. -/
import Derived.Test.YtodgfapgmmjpcaaGreatDoorTplF
import Derived.Test.YtodgfapgmmjpcaaGreatDoorSpot
import Derived.Test.YtodgfapgmmjpcaaGreatDoorShelfC
namespace Go.Proofs.YtodgfapgmmjpcaaGreatDoor
set_option linter.unusedVariables false
set_option linter.unusedSimpArgs false
open Go.RowKit
theorem TR.far {w0 w : World} {r g : Nat} {fv pv ev : Value} {s : ByteArray} {a : Nat} {no : Bool} (h : TR w0 w r g fv pv ev s a no) {p : Addr} (u : Value) (h1 : p.block ≠ r) (h2 : p.block ≠ g) (h3 : w0.heap.size ≤ p.block) : TR w0 (w.setCell p u) r g fv pv ev s a no :=
  ⟨Blk.far h.rd h1.symm u, Blk.far h.sc h2.symm u, h.aw.setCell (.inr h3) u⟩
set_option maxRecDepth 100000 in
set_option maxHeartbeats 6400000 in
theorem extra_any (r g : Nat) (fv pv : Value) (s : ByteArray) (a0 : Nat) (E : List Lab) (a' : Nat) (no' : Bool) (w : World) (h : TR w w r g fv pv (.slice none 0 0) s a0 false) (ha0 : a0 ≤ s.size) (hs : s.size ≤ 4611686018427387904) (hR : extGo s.data.toList (s.data.toList.length + 1) a0 false [] = (E, a', no')) (hM : a' ≤ 1048576) :
    Calls Tryz.prog 35 #[.pointer (some ⟨r, 0, none⟩)] w fun e w' => e = .returned (.tuple #[]) ∧ ∃ ev, TR w w' r g fv pv ev s a' no' ∧ w'.ownsRow w.heap.size 33 2 ev E.length (E.flatMap labCell) := by
  have HL : Hid (s.data.toList.length = s.size) := Lib.hid (by simp)
  obtain ⟨i0, hi0, hz0, hz1, hz2⟩ := info_parts Tryz.infoLabel
  have hu : Tryz.prog.underlying 23 = some (.slice 33) := by kernel_rfl
  have H0 : Hid (extGo s.data.toList (s.data.toList.length + 1) a0 false [] = (E, a', no')) := Lib.hid hR
  have hrl := Blk.lt h.rd
  have hgl := Blk.lt h.sc
  clear hR
  go_enter Tryz.func35, Tryz.ntmps35
  go_wp2_with fail
  go_loopw [8] (fun _ wr => ∃ (a f : Nat) (acc : List Lab) (ev : Value), a ≤ s.size ∧ acc.length ≤ a ∧ s.size < f + a ∧ TR w wr r g fv pv ev s a false ∧ wr.ownsRow w.heap.size 33 2 ev acc.length (acc.flatMap labCell) ∧ Hid (extGo s.data.toList f a false acc = (E, a', no'))) (fun _ wr => mOf wr g s)
  case atStart => exact ⟨a0, s.data.toList.length + 1, [], _, ha0, by simp, by rw [HL.out]; omega, h, World.ownsRow_nil _ _ _ _, H0⟩
  case round =>
    obtain ⟨a, f, acc, ev, ha, hacc, hf, hX, hown, HR⟩ := hrel
    clear H0
    obtain ⟨f, rfl⟩ : ∃ f', f = f' + 1 := ⟨f - 1, by omega⟩
    have hm0 := hX.sc.mOf
    obtain ⟨⟨c0, c1, c2, c3⟩, f1, f2, f3⟩ := hX.facts
    have hle := extGo_le (l := s.data.toList) (f + 1) a false acc (by rw [HL.out]; exact ha)
    rw [HR.out] at hle
    simp only at hle
    have ham : a ≤ 1048576 := by omega
    have hwz := hX.aw.size
    have kS := fun W hh => stopped_any g s a false W hh
    have hR := HR.out
    rw [extGo, if_neg (by simp)] at hR
    clear HR hle
    obtain ⟨b, nb, hb⟩ : ∃ b nb, someS s.data.toList dtNode a false = (b, nb) := ⟨_, _, rfl⟩
    obtain ⟨c, nc, hc⟩ : ∃ c nc, wordS s.data.toList [61] b nb = (c, nc) := ⟨_, _, rfl⟩
    obtain ⟨d, nd, hd⟩ : ∃ d nd, someS s.data.toList tmInk c nc = (d, nd) := ⟨_, _, rfl⟩
    have l1 := someS_le s.data.toList dtNode a false (by rw [HL.out]; exact ha)
    rw [hb, HL.out] at l1
    have l2 := wordS_le s.data.toList [61] b nb (by rw [HL.out]; exact l1.2)
    rw [hc, HL.out] at l2
    have l3 := someS_le s.data.toList tmInk c nc (by rw [HL.out]; exact l2.2)
    rw [hd, HL.out] at l3
    simp only at l1 l2 l3
    have kN := fun W hh => some_tnode g s a false b nb W hh ha hs hb
    have kW := fun W hh => word_any g s ⟨#[61]⟩ b nb c nc W hh l1.2 hs (by decide) hc
    have kI := fun W hh => some_tink g s c nc d nd W hh l2.2 hs hd
    rw [ext_cut'] at kN kI
    have hl : labS s.data.toList a = ((mkS (cutL s.data.toList a b), mkS (cutL s.data.toList c d)), d, nd) := by
      unfold labS; simp only [hb, hc, hd]
    rw [hl] at hR
    simp only at hR
    generalize mkS (cutL s.data.toList a b) = nm at kN hR
    generalize mkS (cutL s.data.toList c d) = vl at kI hR
    have kU := fun W hh => takes_any g s d nd 44 W hh l3.2 hs
    unfold takeA at kU
    clear hb hc hd hl
    have hot : ∀ j, ev.ownBlock = some j → j < wr.heap.size := fun j hj => (hown.lt j hj).2
    have hrg := hX.rg
    cases q2 : isB s.data.toList d nd 44
    case true =>
      obtain ⟨hlt2, hnb, _⟩ := isB_lt q2
      subst hnb
      rw [HL.out] at hlt2
      rw [q2, if_pos rfl] at kU hR
      have HN := Lib.hid hR
      clear hR q2
      go_upto_region 4 with (first
        | (go_at_call 36; (with_reducible refine (kS _ hX.sc).mono ?_); rintro e w2 ⟨rfl, rfl⟩)
        | (go_at_call 58; (with_reducible refine (kN _ hX.sc).mono ?_); rintro e w6 ⟨rfl, h6, hA6⟩; have X6 := hX.scan hA6 h6 (by simp); have O6 := hX.own hown hA6 (by decide) (by decide) (by simp); have z6 := X6.aw.size; have y6 := hA6.size; have X7 := X6.alloc (.cells #[.string nm, .string ⟨#[]⟩] 33); have O7 := O6.alloc (.cells #[.string nm, .string ⟨#[]⟩] 33); have T7 := Blk.new w6 33 #[.string nm, .string ⟨#[]⟩]; obtain ⟨⟨p0, p1, p2, p3⟩, s1, s2, s3⟩ := X7.facts)
        | (go_at_call 32; (with_reducible refine (kW _ X7.sc).mono ?_); rintro e w8 ⟨rfl, h8, hA8⟩; have X8 := X7.scan hA8 h8 (by simp); have O8 := X7.own O7 hA8 (by decide) (by decide) (by simp); have T8 := Blk.aw T7 hA8 (by simp; omega); obtain ⟨⟨x0, x1, x2, x3⟩, _⟩ := X8.facts)
        | (go_at_call 58; (with_reducible refine (kI _ X8.sc).mono ?_); rintro e w9 ⟨rfl, h9, hA9⟩; have X9 := X8.scan hA9 h9 (by simp); have O9 := X8.own O8 hA9 (by decide) (by decide) (by simp); have T9 := Blk.aw T8 hA9 (by simp; omega); have fz := Blk.frozen T9 1; have fy := (Blk.cell T9 1).trans rfl))
      have T10 := Blk.set_ T9 1 (.string vl)
      have X10 := X9.far (p := ⟨w6.heap.size, 1, none⟩) (.string vl) (by simp; omega) (by simp; omega) (by simp; omega)
      have O10 := own_aw O9 ((Aw.refl [w6.heap.size] w9).setCell (p := ⟨w6.heap.size, 1, none⟩) (.inl (by simp)) (.string vl)) (fun j hj hm => by have := hot j hj; simp at hm; omega)
      have z10 := X10.aw.size
      generalize w9.setCell ⟨w6.heap.size, 1, none⟩ (.string vl) = W0 at *
      generalize w6.heap.size = t at *
      have q0 := (Blk.cell T10 0).trans rfl
      have q1 := (Blk.cell T10 1).trans rfl
      have XD := X10.drew
      have XA := XD.alloc (.cells #[.string nm, .string vl] 33)
      have OA := (World.ownsRow.drew O10).alloc (.cells #[.string nm, .string vl] 33)
      obtain ⟨⟨u0, u1, u2, u3⟩, v1, v2, v3⟩ := X10.facts
      obtain ⟨⟨r0, r1, r2, r3⟩, _⟩ := (X10.alloc (.cells #[.string nm, .string vl] 33)).facts
      clear c0 c1 c2 c3 f1 f2 f3 X6 O6 X7 O7 T7 X8 O8 T8 X9 O9 T9 fz fy p0 p1 p2 p3 s1 s2 s3 x0 x1 x2 x3 hX hown h6 h8 h9 hA6 hA8 hA9
      go_wp2_with fail
      go_region_law (refine step_append_lies _ (by rfl) _ _ _ (by rfl) w.heap.size 33 i0 _ 2 32 hu hi0 hz0 hz1 hz2 rfl (by omega) _ acc.length (acc.flatMap labCell) (by rfl) OA ⟨W0.heap.size, 0, none⟩ 1 1 [.string nm, .string vl] (by rfl) (by rfl) (World.news_of_block (heap_alloc_new W0.drew _)) (by simp [Value.oneCell']) (by omega) (by simp [maxLen]; omega) (by omega) (by simp; omega) (W0.heap.size + 1) (by simp) ?_; intro gg capg w18 hown18 hgrow hat18 hlt18; have X18 := XA.grown hgrow (fun j e => (OA.lt _ e).1) (XA.nr OA (by decide)) (XA.ng OA (by decide)); obtain ⟨⟨b0, b1, b2, b3⟩, k1, k2, k3⟩ := X18.facts)
      all_goals
        have Y4 := X18.setE (.slice (some ⟨gg, 0, none⟩) (acc.length + 1) capg)
        have O4 := X18.own hown18 ((Aw.refl [r] w18).setCell (p := ⟨r, 3, none⟩) (.inl (by simp)) (.slice (some ⟨gg, 0, none⟩) (acc.length + 1) capg)) (by decide) (by decide) (by simp)
        obtain ⟨⟨t0, t1, t2, t3⟩, _⟩ := Y4.facts
        go_wp2_with (go_at_call 34; (with_reducible refine (kU _ Y4.sc).mono ?_); rintro e w7 ⟨rfl, h7, hA7⟩; have X5 := Y4.scan hA7 h7 (by simp); have O5 := Y4.own O4 hA7 (by decide) (by decide) (by simp))
        refine ⟨⟨d + 1, f, acc ++ [(nm, vl)], _, by omega, by simp; omega, by omega, X5, (by rw [List.length_append, List.flatMap_append]; exact O5), HN⟩, ?_⟩
        rw [X5.sc.mOf, hm0]
        simp; omega
    case false =>
      rw [q2, if_neg (by simp)] at kU hR
      obtain ⟨rfl, rfl, rfl⟩ : acc ++ [(nm, vl)] = E ∧ d = a' ∧ nd = no' := by injection hR with e1 e2; injection e2 with e3 e4; exact ⟨e1, e3, e4⟩
      clear hR q2
      go_upto_region 4 with (first
        | (go_at_call 36; (with_reducible refine (kS _ hX.sc).mono ?_); rintro e w2 ⟨rfl, rfl⟩)
        | (go_at_call 58; (with_reducible refine (kN _ hX.sc).mono ?_); rintro e w6 ⟨rfl, h6, hA6⟩; have X6 := hX.scan hA6 h6 (by simp); have O6 := hX.own hown hA6 (by decide) (by decide) (by simp); have z6 := X6.aw.size; have y6 := hA6.size; have X7 := X6.alloc (.cells #[.string nm, .string ⟨#[]⟩] 33); have O7 := O6.alloc (.cells #[.string nm, .string ⟨#[]⟩] 33); have T7 := Blk.new w6 33 #[.string nm, .string ⟨#[]⟩]; obtain ⟨⟨p0, p1, p2, p3⟩, s1, s2, s3⟩ := X7.facts)
        | (go_at_call 32; (with_reducible refine (kW _ X7.sc).mono ?_); rintro e w8 ⟨rfl, h8, hA8⟩; have X8 := X7.scan hA8 h8 (by simp); have O8 := X7.own O7 hA8 (by decide) (by decide) (by simp); have T8 := Blk.aw T7 hA8 (by simp; omega); obtain ⟨⟨x0, x1, x2, x3⟩, _⟩ := X8.facts)
        | (go_at_call 58; (with_reducible refine (kI _ X8.sc).mono ?_); rintro e w9 ⟨rfl, h9, hA9⟩; have X9 := X8.scan hA9 h9 (by simp); have O9 := X8.own O8 hA9 (by decide) (by decide) (by simp); have T9 := Blk.aw T8 hA9 (by simp; omega); have fz := Blk.frozen T9 1; have fy := (Blk.cell T9 1).trans rfl))
      have T10 := Blk.set_ T9 1 (.string vl)
      have X10 := X9.far (p := ⟨w6.heap.size, 1, none⟩) (.string vl) (by simp; omega) (by simp; omega) (by simp; omega)
      have O10 := own_aw O9 ((Aw.refl [w6.heap.size] w9).setCell (p := ⟨w6.heap.size, 1, none⟩) (.inl (by simp)) (.string vl)) (fun j hj hm => by have := hot j hj; simp at hm; omega)
      have z10 := X10.aw.size
      generalize w9.setCell ⟨w6.heap.size, 1, none⟩ (.string vl) = W0 at *
      generalize w6.heap.size = t at *
      have q0 := (Blk.cell T10 0).trans rfl
      have q1 := (Blk.cell T10 1).trans rfl
      have XD := X10.drew
      have XA := XD.alloc (.cells #[.string nm, .string vl] 33)
      have OA := (World.ownsRow.drew O10).alloc (.cells #[.string nm, .string vl] 33)
      obtain ⟨⟨u0, u1, u2, u3⟩, v1, v2, v3⟩ := X10.facts
      obtain ⟨⟨r0, r1, r2, r3⟩, _⟩ := (X10.alloc (.cells #[.string nm, .string vl] 33)).facts
      clear c0 c1 c2 c3 f1 f2 f3 X6 O6 X7 O7 T7 X8 O8 T8 X9 O9 T9 fz fy p0 p1 p2 p3 s1 s2 s3 x0 x1 x2 x3 hX hown h6 h8 h9 hA6 hA8 hA9
      go_wp2_with fail
      go_region_law (refine step_append_lies _ (by rfl) _ _ _ (by rfl) w.heap.size 33 i0 _ 2 32 hu hi0 hz0 hz1 hz2 rfl (by omega) _ acc.length (acc.flatMap labCell) (by rfl) OA ⟨W0.heap.size, 0, none⟩ 1 1 [.string nm, .string vl] (by rfl) (by rfl) (World.news_of_block (heap_alloc_new W0.drew _)) (by simp [Value.oneCell']) (by omega) (by simp [maxLen]; omega) (by omega) (by simp; omega) (W0.heap.size + 1) (by simp) ?_; intro gg capg w18 hown18 hgrow hat18 hlt18; have X18 := XA.grown hgrow (fun j e => (OA.lt _ e).1) (XA.nr OA (by decide)) (XA.ng OA (by decide)); obtain ⟨⟨b0, b1, b2, b3⟩, k1, k2, k3⟩ := X18.facts)
      all_goals
        have Y4 := X18.setE (.slice (some ⟨gg, 0, none⟩) (acc.length + 1) capg)
        have O4 := X18.own hown18 ((Aw.refl [r] w18).setCell (p := ⟨r, 3, none⟩) (.inl (by simp)) (.slice (some ⟨gg, 0, none⟩) (acc.length + 1) capg)) (by decide) (by decide) (by simp)
        obtain ⟨⟨t0, t1, t2, t3⟩, _⟩ := Y4.facts
        go_wp2_with (go_at_call 34; (with_reducible refine (kU _ Y4.sc).mono ?_); rintro e w7 ⟨rfl, h7, hA7⟩; have X5 := Y4.scan hA7 h7 (by simp); have O5 := Y4.own O4 hA7 (by decide) (by decide) (by simp))
        first
          | go_end0
          | refine bodyPost_ret (results_none rfl _ _ _) rfl ?_
        exact ⟨rfl, _, X5, by rw [List.length_append, List.flatMap_append]; exact O5⟩
end Go.Proofs.YtodgfapgmmjpcaaGreatDoor
