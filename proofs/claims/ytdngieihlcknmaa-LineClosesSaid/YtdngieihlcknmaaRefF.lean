/- The walk of the reference's value of a field. -/
import Derived.Test.YtdngieihlcknmaaRefE
import Derived.Test.YtdngieihlcknmaaLineE
namespace Go.Proofs.Ytdngieihlcknmaa
set_option linter.unusedVariables false
set_option linter.unusedSimpArgs false
open Go.RowKit
theorem isB_next {l : List UInt8} {a : Nat} {c : Int} (hc : c ≠ 0) : isB l a false c = (bt l a == c) := by
  unfold isB pkB
  by_cases h : a < l.length
  · simp [h]
  · rw [bt_end (by omega)]; simp [h, beq_eq_false_iff_ne]; exact fun e => hc e.symm
/-- The scanner, the block of a field under way, the block of what is told. -/
structure VF (w0 w : World) (g q f : Nat) (s : ByteArray) (a : Nat) (no : Bool) (vl : ByteArray) (pos kind : Nat) : Prop where
  sr : Sr w g s a no
  rs : Fd w q ⟨#[]⟩ ⟨#[]⟩ 0 0 0
  fd : Fd w f ⟨#[]⟩ vl 0 pos kind
  gl : g < w0.heap.size
  ql : w0.heap.size ≤ q
  fl : w0.heap.size ≤ f
  qf : q ≠ f
  aw : Aw [g] w0 w
section
variable {w0 w w' : World} {g q f : Nat} {s : ByteArray} {a a' : Nat} {no no' : Bool} {vl : ByteArray} {pos kind : Nat}
theorem VF.scan (h : VF w0 w g q f s a no vl pos kind) (hs : Sr w' g s a' no') (k : Aw [g] w w') : VF w0 w' g q f s a' no' vl pos kind :=
  ⟨hs, Blk.aw h.rs k (by have := h.gl; have := h.ql; simp; omega), Blk.aw h.fd k (by have := h.gl; have := h.fl; simp; omega), h.gl, h.ql, h.fl, h.qf, h.aw.trans k⟩
theorem VF.at_ (h : VF w0 w g q f s a no vl pos kind) (n : Nat) : VF w0 (w.setCell ⟨g, 1, none⟩ (.int .i64 (n : Int))) g q f s n no vl pos kind :=
  h.scan (h.sr.atN n) ((Aw.refl _ _).setCell (.inl (by simp)) _)
theorem VF.drewN (h : VF w0 w g q f s a no vl pos kind) (n : Nat) : VF w0 (w.drewN n) g q f s a no vl pos kind := ⟨h.sr, h.rs, h.fd, h.gl, h.ql, h.fl, h.qf, h.aw.drewN n⟩
theorem VF.drew (h : VF w0 w g q f s a no vl pos kind) : VF w0 w.drew g q f s a no vl pos kind := ⟨h.sr, h.rs, h.fd, h.gl, h.ql, h.fl, h.qf, h.aw.drew⟩
theorem VF.put {i : Nat} {u : Value} {vl' : ByteArray} {pos' kind' : Nat} (h : VF w0 w g q f s a no vl pos kind) (hf : Fd (w.setCell ⟨f, i, none⟩ u) f ⟨#[]⟩ vl' 0 pos' kind') : VF w0 (w.setCell ⟨f, i, none⟩ u) g q f s a no vl' pos' kind' :=
  ⟨Blk.far h.sr (by have := h.gl; have := h.fl; simp; omega) _, Blk.far h.rs h.qf _, hf, h.gl, h.ql, h.fl, h.qf, h.aw.setCell (.inr h.fl) _⟩
theorem VF.value (h : VF w0 w g q f s a no vl pos kind) (v : ByteArray) : VF w0 (w.setCell ⟨f, 1, none⟩ (.string v)) g q f s a no v pos kind := h.put (h.fd.setValue v)
theorem VF.kind_ (h : VF w0 w g q f s a no vl pos kind) (k : Nat) {u : Value} (hu : u = .int .i64 (k : Int)) : VF w0 (w.setCell ⟨f, 4, none⟩ u) g q f s a no vl pos k := by rw [hu]; exact h.put (h.fd.setKind k)
theorem VF.pos_ (h : VF w0 w g q f s a no vl pos kind) (k : Nat) : VF w0 (w.setCell ⟨f, 3, none⟩ (.int .i64 (k : Int))) g q f s a no vl k kind := h.put (h.fd.setPos k)
/-- What is told in the end. -/
theorem VF.out (h : VF w0 w g q f s a no vl pos kind) : Sr (((((w.setCell ⟨q, 0, none⟩ (.string ⟨#[]⟩)).setCell ⟨q, 1, none⟩ (.string vl)).setCell ⟨q, 2, none⟩ (.int .i64 0)).setCell ⟨q, 3, none⟩ (.int .i64 (pos : Int))).setCell ⟨q, 4, none⟩ (.int .i64 (kind : Int))) g s a no ∧ Aw [g] w0 (((((w.setCell ⟨q, 0, none⟩ (.string ⟨#[]⟩)).setCell ⟨q, 1, none⟩ (.string vl)).setCell ⟨q, 2, none⟩ (.int .i64 0)).setCell ⟨q, 3, none⟩ (.int .i64 (pos : Int))).setCell ⟨q, 4, none⟩ (.int .i64 (kind : Int))) := by
  have hg : g ≠ q := by have := h.gl; have := h.ql; omega
  have hq := h.ql
  exact ⟨Blk.far (Blk.far (Blk.far (Blk.far (Blk.far h.sr hg _) hg _) hg _) hg _) hg _, ((((h.aw.setCell (.inr hq) _).setCell (.inr hq) _).setCell (.inr hq) _).setCell (.inr hq) _).setCell (.inr hq) _⟩
end
/-- What a field's value is told as. -/
def FieldE (kd : Nat) (v : List UInt8) (p : Nat) (no : Bool) (e : Ending) : Prop := ∃ V P K, e = .returned (.agg #[.string ⟨#[]⟩, .string V, .int .i64 0, .int .i64 ((P : Nat) : Int), .int .i64 ((K : Nat) : Int)]) ∧ (no = false → V = mkS v ∧ P = p ∧ K = kd)
set_option maxRecDepth 100000 in
set_option maxHeartbeats 3200000 in
theorem value_any (g : Nat) (s : ByteArray) (a : Nat) (kd : Nat) (v : List UInt8) (p a' : Nat) (no' : Bool) (w : World) (h : Sr w g s a false) (ha : a ≤ s.size) (hs : s.size ≤ 1048576) (hR : toldS s.data.toList a false = ((kd, v, p), a', no')) :
    Calls Try.prog 41 #[.pointer (some ⟨g, 0, none⟩)] w fun e w' => FieldE kd v p no' e ∧ Sr w' g s a' no' ∧ Aw [g] w w' := by
  have hL : s.data.toList.length = s.size := by simp
  have hs2 : s.size ≤ 4611686018427387904 := Nat.le_trans hs (by decide)
  have hg := h.lt
  have kN := fun W h => next_any g s a false W h hs2 ha
  have hV0 : VF w ((w.alloc (.cells #[.string ⟨#[]⟩, .string ⟨#[]⟩, .int .i64 0, .int .i64 0, .int .i64 0] 48)).alloc (.cells #[.string ⟨#[]⟩, .string ⟨#[]⟩, .int .i64 0, .int .i64 (a : Int), .int .i64 0] 48)) g w.heap.size (w.heap.size + 1) s a false ⟨#[]⟩ a 0 := by
    refine ⟨Sr.alloc (h.alloc _) _, Blk.alloc (Blk.new w _ _) _, ?_, hg, Nat.le_refl _, by omega, by omega, ((Aw.refl _ _).alloc _).alloc _⟩
    have := Blk.new (w.alloc (.cells #[.string ⟨#[]⟩, .string ⟨#[]⟩, .int .i64 0, .int .i64 0, .int .i64 0] 48)) 48 #[.string ⟨#[]⟩, .string ⟨#[]⟩, .int .i64 0, .int .i64 (a : Int), .int .i64 0]
    simpa [Fd] using this
  unfold toldS at hR
  rw [isB_next (by decide), isB_next (by decide), isB_next (by decide)] at hR
  obtain ⟨⟨c0, c1, c2⟩, f1, f2⟩ := h.facts
  have hC0 : isB s.data.toList a false 45 = (bt s.data.toList a == 45) := isB_next (by decide)
  have hCl : bt s.data.toList a ≠ 0 → a < s.size := fun e => by
    rcases Nat.lt_or_ge a s.size with h' | h'
    · exact h'
    · exact absurd (bt_end (by rw [hL]; exact h')) e
  generalize bt s.data.toList a = C at kN hR hC0 hCl
  by_cases k34 : C = 34
  case pos =>
    subst k34
    have hlt := hCl (by decide)
    simp only [show ((34 : Int) == 116) = false from rfl, show ((34 : Int) == 102) = false from rfl, show ((34 : Int) == 34) = true from rfl, Bool.false_eq_true, if_false, if_true] at hR
    obtain ⟨T, b, nb, hi⟩ : ∃ T b nb, ink s.data.toList 34 inT 110 (a + 1) false = (T, b, nb) := ⟨_, _, _, rfl⟩
    have hle := ink_le s.data.toList 34 inT 110 (a + 1) false (by rw [hL]; omega)
    have hv : inkV s.data.toList 34 inT 110 (a + 1) false = if nb then [] else T := by unfold inkV; rw [hi]
    rw [hi, hL] at hle
    rw [hi, hv] at hR
    obtain ⟨rfl, hvv, rfl, hw⟩ := inj3 hR
    have HNO : Hid (no' = false → T = v) := Lib.hid (by
      intro e
      cases nb
      · exact hvv
      · rw [wordS_no] at hw; injection hw with _ e2; rw [e] at e2; cases e2)
    clear hvv
    rw [← ink_quote] at hi
    have kS := fun W h => str_any g s ⟨#[10]⟩ ⟨#[92, 34]⟩ 34 0 (a + 1) false T b nb W h (by omega) hs (by decide) (by decide) (fun c _ => by simp [hasB]) hi
    have kW := fun W h => lit_any g s ⟨#[34]⟩ b nb a' no' W h hle.2.1 hs (by decide) hw
    clear hR hi hv hle hw hL c0 c2 f1 f2 hC0 hCl
    generalize hV : mkS T = V at kS
    go_enter Try.func41, Try.ntmps41
    go_upto_region 17 with (first
      | (go_at_call 39; (with_reducible refine (kN _ hV0.sr).mono ?_); rintro e w1 ⟨rfl, q1, rfl⟩; have L1 := hV0.drewN q1; obtain ⟨⟨x0, x1, x2⟩, y1, y2⟩ := L1.sr.facts; obtain ⟨_, z0, z1, z2, z3, z4⟩ := L1.fd.facts))
    have L2 : VF w _ g w.heap.size (w.heap.size + 1) s (a + 1) false ⟨#[]⟩ a 0 := L1.at_ (a + 1)
    obtain ⟨⟨x0, x1', x2⟩, y1, y2⟩ := L2.sr.facts
    obtain ⟨_, z0, z1, z2, z3, z4⟩ := L2.fd.facts
    have x1 := x1'
    rw [show (((a + 1 : Nat) : Nat) : Int) = (a : Int) + 1 from rfl] at x1
    clear x1'
    go_cut [] from 80 to 86 (fun wx => VF w wx g w.heap.size (w.heap.size + 1) s (a + 1) false ⟨#[]⟩ (a + 1) 4)
    case first =>
      go_region
      all_goals
        go_wp2_with fail
        go_meet
        first
          | exact (L2.drew.kind_ 4 (u := .int .i64 4) rfl).pos_ (a + 1)
          | exact (L2.kind_ 4 (u := .int .i64 4) rfl).pos_ (a + 1)
    case rest =>
      obtain ⟨⟨m0, m1, m2⟩, n1, n2⟩ := hcut.sr.facts
      go_wp2_with (first
        | (go_at_call 64; (with_reducible refine (kS _ hcut.sr).mono ?_); rintro e w4 ⟨rfl, h4, hA4⟩; have L4 := hcut.scan h4 hA4; obtain ⟨_, u0, u1, u2, u3, u4⟩ := L4.fd.facts; have L5 := L4.value V)
        | (go_at_call 40; (with_reducible refine (kW _ L5.sr).mono ?_); rintro e w6 ⟨rfl, h6, hA6⟩; have L6 := L5.scan h6 hA6; obtain ⟨⟨d0, d1, d2, d3, d4⟩, _⟩ := L6.fd.facts; obtain ⟨⟨e0, e1, e2, e3, e4⟩, v0, v1, v2, v3, v4⟩ := L6.rs.facts))
      exact bodyPost_ret (v := .agg #[.string ⟨#[]⟩, .string V, .int .i64 0, .int .i64 ((a + 1 : Nat) : Int), .int .i64 ((4 : Nat) : Int)]) (by simp [results, Try.results41, go_sem, e0, e1, e2, e3, e4]) rfl ⟨⟨V, a + 1, 4, rfl, fun e => by (rw [← HNO.out e]; exact ⟨hV.symm, rfl, rfl⟩)⟩, L6.out⟩
  by_cases k116 : C = 116
  case pos =>
    subst k116
    simp only [show ((116 : Int) == 116) = true from rfl, if_true] at hR
    obtain ⟨rfl, rfl, rfl, hw⟩ := inj3 hR
    have kW := fun W h => lit_any g s ⟨#[116, 114, 117, 101]⟩ a false a' no' W h ha hs (by decide) hw
    clear hR hw hL c0 c2 f1 f2 hC0 hCl
    go_enter Try.func41, Try.ntmps41
    go_wp2_with (first
      | (go_at_call 39; (with_reducible refine (kN _ hV0.sr).mono ?_); rintro e w1 ⟨rfl, q1, rfl⟩; have L1 := hV0.drewN q1; obtain ⟨⟨x0, x1, x2⟩, y1, y2⟩ := L1.sr.facts; obtain ⟨_, z0, z1, z2, z3, z4⟩ := L1.fd.facts)
      | (go_at_call 40; have L2 := (L1.kind_ 3 (u := .int .i64 3) rfl).value ⟨#[116, 114, 117, 101]⟩; (with_reducible refine (kW _ L2.sr).mono ?_); rintro e w6 ⟨rfl, h6, hA6⟩; have L6 := L2.scan h6 hA6; obtain ⟨⟨d0, d1, d2, d3, d4⟩, _⟩ := L6.fd.facts; obtain ⟨⟨e0, e1, e2, e3, e4⟩, v0, v1, v2, v3, v4⟩ := L6.rs.facts))
    exact bodyPost_ret (v := .agg #[.string ⟨#[]⟩, .string ⟨#[116, 114, 117, 101]⟩, .int .i64 0, .int .i64 ((a : Nat) : Int), .int .i64 ((3 : Nat) : Int)]) (by simp [results, Try.results41, go_sem, e0, e1, e2, e3, e4]) rfl ⟨⟨⟨#[116, 114, 117, 101]⟩, a, 3, rfl, fun _ => ⟨rfl, rfl, rfl⟩⟩, L6.out⟩
  by_cases k102 : C = 102
  case pos =>
    subst k102
    simp only [show ((102 : Int) == 116) = false from rfl, show ((102 : Int) == 102) = true from rfl, Bool.false_eq_true, if_false, if_true] at hR
    obtain ⟨rfl, rfl, rfl, hw⟩ := inj3 hR
    have kW := fun W h => lit_any g s ⟨#[102, 97, 108, 115, 101]⟩ a false a' no' W h ha hs (by decide) hw
    clear hR hw hL c0 c2 f1 f2 hC0 hCl
    go_enter Try.func41, Try.ntmps41
    go_wp2_with (first
      | (go_at_call 39; (with_reducible refine (kN _ hV0.sr).mono ?_); rintro e w1 ⟨rfl, q1, rfl⟩; have L1 := hV0.drewN q1; obtain ⟨⟨x0, x1, x2⟩, y1, y2⟩ := L1.sr.facts; obtain ⟨_, z0, z1, z2, z3, z4⟩ := L1.fd.facts)
      | (go_at_call 40; have L2 := (L1.kind_ 3 (u := .int .i64 3) rfl).value ⟨#[102, 97, 108, 115, 101]⟩; (with_reducible refine (kW _ L2.sr).mono ?_); rintro e w6 ⟨rfl, h6, hA6⟩; have L6 := L2.scan h6 hA6; obtain ⟨⟨d0, d1, d2, d3, d4⟩, _⟩ := L6.fd.facts; obtain ⟨⟨e0, e1, e2, e3, e4⟩, v0, v1, v2, v3, v4⟩ := L6.rs.facts))
    exact bodyPost_ret (v := .agg #[.string ⟨#[]⟩, .string ⟨#[102, 97, 108, 115, 101]⟩, .int .i64 0, .int .i64 ((a : Nat) : Int), .int .i64 ((3 : Nat) : Int)]) (by simp [results, Try.results41, go_sem, e0, e1, e2, e3, e4]) rfl ⟨⟨⟨#[102, 97, 108, 115, 101]⟩, a, 3, rfl, fun _ => ⟨rfl, rfl, rfl⟩⟩, L6.out⟩
  have e34 : (C == 34) = false := by rw [beq_eq_false_iff_ne]; exact k34
  have e116 : (C == 116) = false := by rw [beq_eq_false_iff_ne]; exact k116
  have e102 : (C == 102) = false := by rw [beq_eq_false_iff_ne]; exact k102
  simp only [e34, e116, e102, Bool.false_eq_true, if_false] at hR
  clear k34 k116 k102 hCl
  obtain ⟨b, nb, hm⟩ : ∃ b nb, numS s.data.toList a false = (b, nb) := ⟨_, _, rfl⟩
  have hle := numS_le s.data.toList a false (by rw [hL]; exact ha)
  unfold numberS at hR
  simp only [hm, hC0] at hR
  rw [hm, hL] at hle
  simp only at hle
  have kM := fun W h => number_ref g s a false b nb W h ha hs hm
  have kN2 := fun W h => next_any g s b nb W h hs2 hle.2
  obtain ⟨mn, hmn⟩ : ∃ mn, (C == 45) = mn := ⟨_, rfl⟩
  have hmn2 : (C != 45) = !mn := by rw [bne, hmn]
  rw [hmn] at hR
  clear hm hC0 c0 c2 f1 f2
  cases nb
  case true =>
    simp only [isB_no, Bool.and_false, Bool.false_eq_true, if_false] at hR
    obtain ⟨rfl, rfl, rfl, hw⟩ := inj3 hR
    injection hw with hw1 hw2
    subst hw1 hw2
    clear hR hL
    generalize mkS (cutL s.data.toList a b) = V at kM ⊢
    generalize bt s.data.toList b = D at kN2
    go_enter Try.func41, Try.ntmps41
    go_wp2_with (first
      | (go_at_call 39; (with_reducible refine (kN _ hV0.sr).mono ?_); rintro e w1 ⟨rfl, q1, rfl⟩; have L1 := hV0.drewN q1; obtain ⟨⟨x0, x1, x2⟩, y1, y2⟩ := L1.sr.facts; obtain ⟨_, z0, z1, z2, z3, z4⟩ := L1.fd.facts)
      | (go_at_call 42; (with_reducible refine (kM _ L1.sr).mono ?_); rintro e w2 ⟨rfl, h2, hA2⟩; have L2 := L1.scan h2 hA2; obtain ⟨_, t0, t1, t2, t3, t4⟩ := L2.fd.facts; have L3 := L2.value V)
      | (go_at_call 39; (with_reducible refine (kN2 _ L3.sr).mono ?_); rintro e w4 ⟨rfl, q2, rfl⟩; have L4 := L3.drewN q2; obtain ⟨⟨j0, j1, j2⟩, l1, l2⟩ := L4.sr.facts; obtain ⟨⟨d0, d1, d2, d3, d4⟩, r0, r1, r2, r3, r4⟩ := L4.fd.facts; obtain ⟨⟨e0, e1, e2, e3, e4⟩, v0, v1, v2, v3, v4⟩ := L4.rs.facts))
    exact bodyPost_ret (v := .agg #[.string ⟨#[]⟩, .string V, .int .i64 0, .int .i64 ((a : Nat) : Int), .int .i64 ((0 : Nat) : Int)]) (by simp [results, Try.results41, go_sem, e0, e1, e2, e3, e4]) rfl ⟨⟨V, a, 0, rfl, fun e => by cases e⟩, L4.out⟩
  case false =>
  rw [isB_next (by decide), isB_next (by decide), isB_next (by decide)] at hR
  have hDl : bt s.data.toList b ≠ 0 → b < s.size := fun e => by
    rcases Nat.lt_or_ge b s.size with h' | h'
    · exact h'
    · exact absurd (bt_end (by rw [hL]; exact h')) e
  generalize bt s.data.toList b = D at kN2 hR hDl
  by_cases k105 : D = 105
  case pos =>
    subst k105
    simp only [show ((105 : Int) == 105) = true from rfl, if_true] at hR
    obtain ⟨rfl, rfl, rfl, hw⟩ := inj3 hR
    injection hw with hw1 hw2
    subst hw1 hw2
    clear hR hL hDl
    generalize hV : mkS (cutL s.data.toList a b) = V at kM
    go_enter Try.func41, Try.ntmps41
    go_wp2_with (first
      | (go_at_call 39; (with_reducible refine (kN _ hV0.sr).mono ?_); rintro e w1 ⟨rfl, q1, rfl⟩; have L1 := hV0.drewN q1; obtain ⟨⟨x0, x1, x2⟩, y1, y2⟩ := L1.sr.facts; obtain ⟨_, z0, z1, z2, z3, z4⟩ := L1.fd.facts)
      | (go_at_call 42; (with_reducible refine (kM _ L1.sr).mono ?_); rintro e w2 ⟨rfl, h2, hA2⟩; have L2 := L1.scan h2 hA2; obtain ⟨_, t0, t1, t2, t3, t4⟩ := L2.fd.facts; have L3 := L2.value V)
      | (go_at_call 39; (with_reducible refine (kN2 _ L3.sr).mono ?_); rintro e w4 ⟨rfl, q2, rfl⟩; have L4 := L3.drewN q2; obtain ⟨⟨j0, j1, j2⟩, l1, l2⟩ := L4.sr.facts; obtain ⟨⟨d0, d1, d2, d3, d4⟩, r0, r1, r2, r3, r4⟩ := L4.fd.facts; obtain ⟨⟨e0, e1, e2, e3, e4⟩, v0, v1, v2, v3, v4⟩ := L4.rs.facts))
    have L5 : VF w _ g w.heap.size (w.heap.size + 1) s (b + 1) false V a 1 := (L4.kind_ 1 (u := .int .i64 1) rfl).at_ (b + 1)
    exact bodyPost_ret (v := .agg #[.string ⟨#[]⟩, .string V, .int .i64 0, .int .i64 ((a : Nat) : Int), .int .i64 ((1 : Nat) : Int)]) (by simp [results, Try.results41, go_sem, e0, e1, e2, e3, e4]) rfl ⟨⟨V, a, 1, rfl, fun _ => ⟨hV.symm, rfl, rfl⟩⟩, L5.out⟩
  have e105 : (D == 105) = false := by rw [beq_eq_false_iff_ne]; exact k105
  clear k105
  simp only [e105, Bool.false_eq_true, if_false] at hR
  by_cases k117 : mn = false ∧ D = 117
  case pos =>
    obtain ⟨rfl, rfl⟩ := k117
    simp only [show ((117 : Int) == 117) = true from rfl, Bool.not_false, Bool.and_self, if_true] at hR
    obtain ⟨rfl, rfl, rfl, hw⟩ := inj3 hR
    injection hw with hw1 hw2
    subst hw1 hw2
    clear hR hL hDl e105
    generalize hV : mkS (cutL s.data.toList a b) = V at kM
    go_enter Try.func41, Try.ntmps41
    go_wp2_with (first
      | (go_at_call 39; (with_reducible refine (kN _ hV0.sr).mono ?_); rintro e w1 ⟨rfl, q1, rfl⟩; have L1 := hV0.drewN q1; obtain ⟨⟨x0, x1, x2⟩, y1, y2⟩ := L1.sr.facts; obtain ⟨_, z0, z1, z2, z3, z4⟩ := L1.fd.facts)
      | (go_at_call 42; (with_reducible refine (kM _ L1.sr).mono ?_); rintro e w2 ⟨rfl, h2, hA2⟩; have L2 := L1.scan h2 hA2; obtain ⟨_, t0, t1, t2, t3, t4⟩ := L2.fd.facts; have L3 := L2.value V)
      | (go_at_call 39; (with_reducible refine (kN2 _ L3.sr).mono ?_); rintro e w4 ⟨rfl, q2, rfl⟩; have L4 := L3.drewN q2; obtain ⟨⟨j0, j1, j2⟩, l1, l2⟩ := L4.sr.facts; obtain ⟨⟨d0, d1, d2, d3, d4⟩, r0, r1, r2, r3, r4⟩ := L4.fd.facts; obtain ⟨⟨e0, e1, e2, e3, e4⟩, v0, v1, v2, v3, v4⟩ := L4.rs.facts))
    have L5 : VF w _ g w.heap.size (w.heap.size + 1) s (b + 1) false V a 2 := (L4.kind_ 2 (u := .int .i64 2) rfl).at_ (b + 1)
    exact bodyPost_ret (v := .agg #[.string ⟨#[]⟩, .string V, .int .i64 0, .int .i64 ((a : Nat) : Int), .int .i64 ((2 : Nat) : Int)]) (by simp [results, Try.results41, go_sem, e0, e1, e2, e3, e4]) rfl ⟨⟨V, a, 2, rfl, fun _ => ⟨hV.symm, rfl, rfl⟩⟩, L5.out⟩
  have e117 : mn = true ∧ (D == 117) = true ∨ (D == 117) = false := by
    cases hq : (D == 117)
    · exact .inr rfl
    · left
      cases mn
      · exact absurd ⟨rfl, by simpa using hq⟩ k117
      · exact ⟨rfl, rfl⟩
  clear k117
  have h117 : (!mn && (D == 117)) = false := by
    rcases e117 with ⟨rfl, _⟩ | e
    · rfl
    · rw [e, Bool.and_false]
  simp only [h117, Bool.false_eq_true, if_false] at hR
  clear h117
  by_cases k46 : D = 46
  case pos =>
    subst k46
    clear e117
    have hlt := hDl (by decide)
    simp only [show ((46 : Int) == 46) = true from rfl, if_true] at hR
    obtain ⟨c, nc, hd⟩ : ∃ c nc, someS s.data.toList digB (b + 1) false = (c, nc) := ⟨_, _, rfl⟩
    rw [hd] at hR
    dsimp only at hR
    have hdl := someS_le s.data.toList digB (b + 1) false (by rw [hL]; omega)
    rw [hd, hL] at hdl
    have kR := fun W h => run_dig g s (b + 1) false c nc W h (by omega) hs hd
    rw [ext_cut] at kR
    obtain ⟨rfl, rfl, rfl, hw⟩ := inj3 hR
    injection hw with hw1 hw2
    subst hw1 hw2
    have hV2 : mkS (cutL s.data.toList a b) ++ ((⟨#[46]⟩ : ByteArray) ++ mkS (cutL s.data.toList (b + 1) c)) = mkS (cutL s.data.toList a b ++ 46 :: cutL s.data.toList (b + 1) c) := by
      rw [show (⟨#[46]⟩ : ByteArray) = mkS [46] from rfl, mk_app, mk_app]; rfl
    have hs3 : (mkS (cutL s.data.toList (b + 1) c)).size ≤ 1048576 := by
      show (cutL s.data.toList (b + 1) c).length ≤ _
      rw [cutL_len _ _ _ (by rw [hL]; exact hdl.2)]; have := hdl.2; simp only at this; omega
    have hs4 : (mkS (cutL s.data.toList a b)).size ≤ 1048576 := by
      show (cutL s.data.toList a b).length ≤ _
      rw [cutL_len _ _ _ (by rw [hL]; exact hle.2)]; omega
    generalize cutL s.data.toList a b ++ 46 :: cutL s.data.toList (b + 1) c = LL at hV2 ⊢
    generalize mkS (cutL s.data.toList a b) = V at kM hs4 hV2
    generalize mkS (cutL s.data.toList (b + 1) c) = V2 at kR hs3 hV2
    have HV2 := Lib.hid hV2
    have hz1 : ¬ 9223372036854775807 < 1 + V2.size := by omega
    have hz2 : ¬ 9223372036854775807 < V.size + (1 + V2.size) := by omega
    clear hR hL hd hV2 hdl hDl e105
    go_enter Try.func41, Try.ntmps41
    go_upto_region 14 with (first
      | (go_at_call 39; (with_reducible refine (kN _ hV0.sr).mono ?_); rintro e w1 ⟨rfl, q1, rfl⟩; have L1 := hV0.drewN q1; obtain ⟨⟨x0, x1, x2⟩, y1, y2⟩ := L1.sr.facts; obtain ⟨_, z0, z1, z2, z3, z4⟩ := L1.fd.facts)
      | (go_at_call 42; (with_reducible refine (kM _ L1.sr).mono ?_); rintro e w2 ⟨rfl, h2, hA2⟩; have L2 := L1.scan h2 hA2; obtain ⟨_, t0, t1, t2, t3, t4⟩ := L2.fd.facts; have L3 := L2.value V)
      | (go_at_call 39; (with_reducible refine (kN2 _ L3.sr).mono ?_); rintro e w4 ⟨rfl, q2, rfl⟩; have L4 := L3.drewN q2; obtain ⟨⟨j0, j1, j2⟩, l1, l2⟩ := L4.sr.facts; obtain ⟨⟨d0, d1, d2, d3, d4⟩, r0, r1, r2, r3, r4⟩ := L4.fd.facts; obtain ⟨⟨e0, e1, e2, e3, e4⟩, v0, v1, v2, v3, v4⟩ := L4.rs.facts))
    have L5 : VF w _ g w.heap.size (w.heap.size + 1) s (b + 1) false V a 0 := L4.at_ (b + 1)
    obtain ⟨⟨_, p1, _⟩, _⟩ := L5.drew.fd.facts
    go_region_with (first
      | (go_at_call 65; refine (kR _ L5.drew.sr).mono ?_; rintro e w5 ⟨rfl, h5, hA5⟩; have L6 := L5.drew.scan h5 hA5; obtain ⟨⟨_, p2, _⟩, _, u1, _⟩ := L6.fd.facts))
    all_goals
      have L7 := L6.value (V ++ ((⟨#[46]⟩ : ByteArray) ++ V2))
      obtain ⟨⟨d0, d1, d2, d3, d4⟩, _⟩ := L7.fd.facts
      obtain ⟨⟨e0, e1, e2, e3, e4⟩, v0, v1, v2, v3, v4⟩ := L7.rs.facts
      go_wp2_with fail
      exact bodyPost_ret (v := .agg #[.string ⟨#[]⟩, .string (V ++ ((⟨#[46]⟩ : ByteArray) ++ V2)), .int .i64 0, .int .i64 ((a : Nat) : Int), .int .i64 ((0 : Nat) : Int)]) (by simp [results, Try.results41, go_sem, e0, e1, e2, e3, e4]) rfl ⟨⟨(V ++ ((⟨#[46]⟩ : ByteArray) ++ V2)), a, 0, rfl, fun _ => ⟨HV2.out, rfl, rfl⟩⟩, L7.out⟩
  have e46 : (D == 46) = false := by rw [beq_eq_false_iff_ne]; exact k46
  simp only [e46, Bool.false_eq_true, if_false] at hR
  obtain ⟨rfl, rfl, rfl, hw⟩ := inj3 hR
  injection hw with hw1 hw2
  subst hw1 hw2
  clear hR hL hDl k46
  generalize hV : mkS (cutL s.data.toList a b) = V at kM
  rcases e117 with ⟨rfl, e117⟩ | e117
  all_goals
    go_enter Try.func41, Try.ntmps41
    go_wp2_with (first
      | (go_at_call 39; (with_reducible refine (kN _ hV0.sr).mono ?_); rintro e w1 ⟨rfl, q1, rfl⟩; have L1 := hV0.drewN q1; obtain ⟨⟨x0, x1, x2⟩, y1, y2⟩ := L1.sr.facts; obtain ⟨_, z0, z1, z2, z3, z4⟩ := L1.fd.facts)
      | (go_at_call 42; (with_reducible refine (kM _ L1.sr).mono ?_); rintro e w2 ⟨rfl, h2, hA2⟩; have L2 := L1.scan h2 hA2; obtain ⟨_, t0, t1, t2, t3, t4⟩ := L2.fd.facts; have L3 := L2.value V)
      | (go_at_call 39; (with_reducible refine (kN2 _ L3.sr).mono ?_); rintro e w4 ⟨rfl, q2, rfl⟩; have L4 := L3.drewN q2; obtain ⟨⟨j0, j1, j2⟩, l1, l2⟩ := L4.sr.facts; obtain ⟨⟨d0, d1, d2, d3, d4⟩, r0, r1, r2, r3, r4⟩ := L4.fd.facts; obtain ⟨⟨e0, e1, e2, e3, e4⟩, v0, v1, v2, v3, v4⟩ := L4.rs.facts))
    exact bodyPost_ret (v := .agg #[.string ⟨#[]⟩, .string V, .int .i64 0, .int .i64 ((a : Nat) : Int), .int .i64 ((0 : Nat) : Int)]) (by simp [results, Try.results41, go_sem, e0, e1, e2, e3, e4]) rfl ⟨⟨V, a, 0, rfl, fun _ => ⟨hV.symm, rfl, rfl⟩⟩, L4.out⟩
end Go.Proofs.Ytdngieihlcknmaa
