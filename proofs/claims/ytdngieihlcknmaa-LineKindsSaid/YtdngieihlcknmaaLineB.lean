/- The walks of package lineword: what a field is, fields, tags. -/
import Derived.Test.YtdngieihlcknmaaLineA
import Derived.Test.YtdngieihlcknmaaLineDfa
namespace Go.Proofs.Ytdngieihlcknmaa
set_option linter.unusedVariables false
set_option linter.unusedSimpArgs false
open Go.RowKit
attribute [local go_sem ↓] Go.wp_at_zero Go.wp_at_succ
theorem inj3 {A B : Type} {x y : Nat} {v u : A} {p q : Nat} {b c : B} (h : ((x, v, p), b) = ((y, u, q), c)) : x = y ∧ v = u ∧ p = q ∧ b = c := by
  injection h with e1 e2; injection e1 with e3 e4; injection e4 with e5 e6; exact ⟨e3, e5, e6, e2⟩
set_option maxRecDepth 100000 in
set_option maxHeartbeats 3200000 in
theorem told_any (w0 : World) (r g f : Nat) (rv : Value) (s : ByteArray) (a : Nat) (no : Bool) (nm vl : ByteArray) (off : Nat) (kd : Nat) (v : List UInt8) (p a' : Nat) (no' : Bool) (w : World) (h : LF w0 w r g f rv s a no nm vl off a 0) (ha : a ≤ s.size) (hs : s.size ≤ 1048576) (hR : toldS s.data.toList a no = ((kd, v, p), a', no')) :
    Calls Try.prog 80 #[.pointer (some ⟨r, 0, none⟩), .pointer (some ⟨f, 0, none⟩)] w fun e w' => e = .returned (.tuple #[]) ∧ LF w0 w' r g f rv s a' no' nm (mkS v) off p kd := by
  have hL : s.data.toList.length = s.size := by simp
  have hs2 : s.size ≤ 4611686018427387904 := Nat.le_trans hs (by decide)
  have k1 := fun W h => is_any g s a no 116 W h ha hs2
  have k2 := fun W h => is_any g s a no 102 W h ha hs2
  have k3 := fun W h => takes_any g s a no 34 W h ha hs2
  unfold takeA at k3
  obtain ⟨r0, r1, r2⟩ := h.rd.facts
  unfold toldS at hR
  cases q1 : isB s.data.toList a no 116
  case true =>
    rw [q1, if_pos rfl] at hR
    rw [q1] at k1
    obtain ⟨rfl, rfl, rfl, hw⟩ := inj3 hR
    have kW := fun W h => word_any g s ⟨#[116, 114, 117, 101]⟩ a no a' no' W h ha hs2 (by decide) hw
    clear hR q1 k2 k3 hL hw
    go_enter Try.func80, Try.ntmps80
    go_wp2_with (first
      | (go_at_call 55; (with_reducible refine (k1 _ h.sc).mono ?_); rintro e w1 ⟨rfl, h1, hA1⟩; have L1 := h.scan hA1 h1 (by simp); obtain ⟨_, u0, u1, u2, u3, u4⟩ := L1.fd.facts))
    have L2 := (L1.kind_ 3).value ⟨#[116, 114, 117, 101]⟩
    have e3 : ((3 : Nat) : Int) = 3 := rfl
    rw [e3] at L2
    generalize ((w1.setCell ⟨f, 4, none⟩ (.int .i64 3)).setCell ⟨f, 1, none⟩ (.string ⟨#[116, 114, 117, 101]⟩)) = w2 at L2 ⊢
    obtain ⟨p0, p1⟩ := L2.facts
    go_region_with (go_at_call 61; refine (kW _ L2.drew.sc).mono ?_; rintro e w5 ⟨rfl, h5, hA5⟩; have L5 := L2.drew.scan hA5 h5 (by simp))
    all_goals
      go_wp2_with fail
      go_end0
      exact ⟨rfl, L5⟩
  case false =>
  rw [q1, if_neg (by simp)] at hR
  rw [q1] at k1
  cases q2 : isB s.data.toList a no 102
  case true =>
    rw [q2, if_pos rfl] at hR
    rw [q2] at k2
    obtain ⟨rfl, rfl, rfl, hw⟩ := inj3 hR
    have kW := fun W h => word_any g s ⟨#[102, 97, 108, 115, 101]⟩ a no a' no' W h ha hs2 (by decide) hw
    clear hR q1 q2 k3 hL hw
    go_enter Try.func80, Try.ntmps80
    go_wp2_with (first
      | (go_at_call 55; (with_reducible refine (k1 _ h.sc).mono ?_); rintro e w1 ⟨rfl, h1, hA1⟩; have L1 := h.scan hA1 h1 (by simp); obtain ⟨x0, _, _⟩ := L1.rd.facts)
      | (go_at_call 55; (with_reducible refine (k2 _ L1.sc).mono ?_); rintro e w2 ⟨rfl, h2, hA2⟩; have L2 := L1.scan hA2 h2 (by simp); obtain ⟨_, u0, u1, u2, u3, u4⟩ := L2.fd.facts))
    have L3 := (L2.kind_ 3).value ⟨#[102, 97, 108, 115, 101]⟩
    have e3 : ((3 : Nat) : Int) = 3 := rfl
    rw [e3] at L3
    generalize ((w2.setCell ⟨f, 4, none⟩ (.int .i64 3)).setCell ⟨f, 1, none⟩ (.string ⟨#[102, 97, 108, 115, 101]⟩)) = w3 at L3 ⊢
    obtain ⟨p0, p1⟩ := L3.facts
    go_region_with (go_at_call 61; refine (kW _ L3.drew.sc).mono ?_; rintro e w5 ⟨rfl, h5, hA5⟩; have L5 := L3.drew.scan hA5 h5 (by simp))
    all_goals
      go_wp2_with fail
      go_end0
      exact ⟨rfl, L5⟩
  case false =>
  rw [q2, if_neg (by simp)] at hR
  rw [q2] at k2
  cases q3 : isB s.data.toList a no 34
  case true =>
    have hno := (isB_lt q3).2.1
    have hlt := (isB_lt q3).1
    rw [hL] at hlt
    subst hno
    rw [q3, if_pos rfl] at hR
    simp only [q3, if_true] at k3
    obtain ⟨T, b, nb, hi⟩ : ∃ T b nb, ink s.data.toList 34 inT 110 (a + 1) false = (T, b, nb) := ⟨_, _, _, rfl⟩
    have hle := ink_le s.data.toList 34 inT 110 (a + 1) false (by rw [hL]; omega)
    have hv : inkV s.data.toList 34 inT 110 (a + 1) false = if nb then [] else T := by unfold inkV; rw [hi]
    rw [hi, hL] at hle
    rw [hi, hv] at hR
    obtain ⟨rfl, rfl, rfl, hw⟩ := inj3 hR
    have kI := fun W h => inked_any g s ⟨#[34, 92]⟩ 34 (a + 1) false T b nb W h (by omega) hs hi
    have kW := fun W h => word_any g s ⟨#[34]⟩ b nb a' no' W h hle.2.1 hs2 (by decide) hw
    have kA := fun W h => at_any g s (a + 1) false W h
    have hvv : (if nb = true then (⟨#[]⟩ : ByteArray) else mkS T) = mkS (if nb = true then [] else T) := by cases nb <;> rfl
    rw [hvv] at kI
    generalize mkS (if nb = true then [] else T) = V at kI ⊢
    clear hR q1 q2 q3 hL hw hi hv hvv hle
    go_enter Try.func80, Try.ntmps80
    go_wp2_with (first
      | (go_at_call 55; (with_reducible refine (k1 _ h.sc).mono ?_); rintro e w1 ⟨rfl, h1, hA1⟩; have L1 := h.scan hA1 h1 (by simp); obtain ⟨x0, _, _⟩ := L1.rd.facts)
      | (go_at_call 55; (with_reducible refine (k2 _ L1.sc).mono ?_); rintro e w2 ⟨rfl, h2, hA2⟩; have L2 := L1.scan hA2 h2 (by simp); obtain ⟨y0, _, _⟩ := L2.rd.facts)
      | (go_at_call 58; (with_reducible refine (k3 _ L2.sc).mono ?_); rintro e w3 ⟨rfl, h3, hA3⟩; have L3 := L2.scan hA3 h3 (by simp); obtain ⟨z0, _, _⟩ := L3.rd.facts)
      | (go_at_call 25; (with_reducible refine (kA _ L3.sc).mono ?_); rintro e w4 ⟨rfl, rfl⟩; obtain ⟨_, u0, u1, u2, u3, u4⟩ := L3.fd.facts; have L4 : LF w0 ((w3.setCell ⟨f, 4, none⟩ (.int .i64 4)).setCell ⟨f, 3, none⟩ (.int .i64 ((a : Int) + 1))) r g f rv s (a + 1) false nm vl off (a + 1) 4 := (L3.kind_ 4).pos_ (a + 1); obtain ⟨v0, _, _⟩ := L4.rd.facts)
      | (go_at_call 92; (with_reducible refine (kI _ L4.sc).mono ?_); rintro e w5 ⟨rfl, h5, hA5⟩; have L5 := L4.scan hA5 h5 (by simp); obtain ⟨_, _, t1, _⟩ := L5.fd.facts; have L6 := L5.value V; obtain ⟨m0, _, _⟩ := L6.rd.facts)
      | (go_at_call 61; (with_reducible refine (kW _ L6.sc).mono ?_); rintro e w7 ⟨rfl, h7, hA7⟩; have L7 := L6.scan hA7 h7 (by simp)))
    go_end0
    exact ⟨rfl, L7⟩
  case false =>
    rw [q3, if_neg (by simp)] at hR
    simp only [q3, Bool.false_eq_true, if_false] at k3
    obtain ⟨rfl⟩ : p = a := by
      unfold numberS at hR
      simp only at hR
      split at hR
      · exact (inj3 hR).2.2.1.symm
      · split at hR
        · exact (inj3 hR).2.2.1.symm
        · split at hR
          · exact (inj3 hR).2.2.1.symm
          · exact (inj3 hR).2.2.1.symm
    have kN := fun w h => number_any w0 r g f rv s a no nm vl off a kd v a a' no' w h ha hs hR
    clear hR q1 q2 q3 hL
    go_enter Try.func80, Try.ntmps80
    go_wp2_with (first
      | (go_at_call 55; (with_reducible refine (k1 _ h.sc).mono ?_); rintro e w1 ⟨rfl, h1, hA1⟩; have L1 := h.scan hA1 h1 (by simp); obtain ⟨x0, _, _⟩ := L1.rd.facts)
      | (go_at_call 55; (with_reducible refine (k2 _ L1.sc).mono ?_); rintro e w2 ⟨rfl, h2, hA2⟩; have L2 := L1.scan hA2 h2 (by simp); obtain ⟨y0, _, _⟩ := L2.rd.facts)
      | (go_at_call 58; (with_reducible refine (k3 _ L2.sc).mono ?_); rintro e w3 ⟨rfl, h3, hA3⟩; have L3 := L2.scan hA3 h3 (by simp))
      | (go_at_call 93; refine (kN _ L3).mono ?_; rintro e w4 ⟨rfl, L4⟩))
    go_end0
    exact ⟨rfl, L4⟩
/-- The box of a captured reader. -/
def Bx (w : World) (b r : Nat) : Prop := Blk w b 55 #[.pointer (some ⟨r, 0, none⟩)]
theorem Bx.cell {w : World} {b r : Nat} (h : Bx w b r) : w.cell? ⟨b, 0, none⟩ = some (.pointer (some ⟨r, 0, none⟩)) := (Blk.cell h 0).trans rfl
theorem LF.rebase {w0 w w' : World} {r g f : Nat} {rv : Value} {s : ByteArray} {a a' : Nat} {no no' : Bool} {nm vl nm' vl' : ByteArray} {off pos kind off' pos' kind' : Nat} (h : LF w0 w r g f rv s a no nm vl off pos kind) (k : LF w w' r g f rv s a' no' nm' vl' off' pos' kind') : LF w0 w' r g f rv s a' no' nm' vl' off' pos' kind' :=
  ⟨k.rd, k.sc, k.fd, k.rg, k.rf, k.gf, h.aw.trans k.aw⟩
theorem LF.self {w0 w : World} {r g f : Nat} {rv : Value} {s : ByteArray} {a : Nat} {no : Bool} {nm vl : ByteArray} {off pos kind : Nat} (h : LF w0 w r g f rv s a no nm vl off pos kind) : LF w w r g f rv s a no nm vl off pos kind :=
  ⟨h.rd, h.sc, h.fd, h.rg, h.rf, h.gf, Aw.refl _ _⟩
theorem LF.alloc {w0 w : World} {r g f : Nat} {rv : Value} {s : ByteArray} {a : Nat} {no : Bool} {nm vl : ByteArray} {off pos kind : Nat} (h : LF w0 w r g f rv s a no nm vl off pos kind) (o : Obj) : LF w0 (w.alloc o) r g f rv s a no nm vl off pos kind :=
  ⟨Blk.alloc h.rd o, Blk.alloc h.sc o, Blk.alloc h.fd o, h.rg, h.rf, h.gf, h.aw.alloc o⟩
theorem LF.far {w0 w : World} {r g f : Nat} {rv : Value} {s : ByteArray} {a : Nat} {no : Bool} {nm vl : ByteArray} {off pos kind : Nat} (h : LF w0 w r g f rv s a no nm vl off pos kind) {p : Addr} (u : Value) (h1 : p.block ≠ r) (h2 : p.block ≠ g) (h3 : p.block ≠ f) (h4 : w0.heap.size ≤ p.block) : LF w0 (w.setCell p u) r g f rv s a no nm vl off pos kind :=
  ⟨Blk.far h.rd h1.symm u, Blk.far h.sc h2.symm u, Blk.far h.fd h3.symm u, h.rg, h.rf, h.gf, h.aw.setCell (.inr h4) u⟩
set_option maxRecDepth 100000 in
set_option maxHeartbeats 3200000 in
theorem fieldFn_any (r g f t b : Nat) (rv : Value) (s : ByteArray) (a : Nat) (no : Bool) (nm vl tn tv : ByteArray) (off pos toff : Nat) (kd : Nat) (v : List UInt8) (p a' : Nat) (no' : Bool) (w : World) (h : LF w w r g f rv s a no nm vl off pos 0) (ht : Tg w t tn tv toff a) (hb : Bx w b r) (hbf : b ≠ f) (ha : a ≤ s.size) (hs : s.size ≤ 1048576) (hR : toldS s.data.toList a no = ((kd, v, p), a', no')) :
    Calls Try.prog 79 #[.pointer (some ⟨t, 0, none⟩), .pointer (some ⟨f, 0, none⟩), .pointer (some ⟨b, 0, none⟩)] w fun e w' => e = .returned (.tuple #[]) ∧ LF w w' r g f rv s a' no' nm (mkS v) off p kd := by
  have L1 := h.pos_ a
  have kT := fun W h => told_any w r g f rv s a no nm vl off kd v p a' no' W h ha hs hR
  obtain ⟨⟨c0, c1, c2, c3⟩, _⟩ := ht.facts
  obtain ⟨⟨d0, d1, d2, d3, d4⟩, u0, u1, u2, u3, u4⟩ := h.fd.facts
  have hb1 : Bx (w.setCell ⟨f, 3, none⟩ (.int .i64 (a : Int))) b r := Blk.far hb hbf _
  have b0 := hb1.cell
  clear hR
  go_enter Try.func79, Try.ntmps79
  go_wp2_with (go_at_call 80; refine (kT _ L1).mono ?_; rintro e w1 ⟨rfl, L2⟩)
  go_end0
  exact ⟨rfl, L2⟩
/-- .. and a tag of the call's own, and the block of the result. -/
structure LT (w0 w : World) (r g f : Nat) (rv : Value) (s : ByteArray) (a : Nat) (no : Bool) (nm vl : ByteArray) (off pos kind : Nat) (t : Nat) (tn tv : ByteArray) (toff tpos : Nat) (u : Nat) : Prop where
  lf : LF w0 w r g f rv s a no nm vl off pos kind
  tg : Tg w t tn tv toff tpos
  tu : Tg w u ⟨#[]⟩ ⟨#[]⟩ 0 0
  tr : t ≠ r ∧ t ≠ g ∧ t ≠ f ∧ t ≠ u ∧ w0.heap.size ≤ t
  ur : u ≠ r ∧ u ≠ g ∧ u ≠ f ∧ w0.heap.size ≤ u
section
variable {w0 w w' : World} {r g f : Nat} {rv : Value} {s : ByteArray} {a a' : Nat} {no no' : Bool} {nm vl nm' vl' : ByteArray} {off pos kind off' pos' kind' t u : Nat} {tn tv : ByteArray} {toff tpos : Nat}
theorem LT.scan {S : List Nat} (h : LT w0 w r g f rv s a no nm vl off pos kind t tn tv toff tpos u) (k : Aw S w w') (hs : Sc w' g s a' no') (hS : ∀ i, i ∈ S → i = g) : LT w0 w' r g f rv s a' no' nm vl off pos kind t tn tv toff tpos u :=
  ⟨h.lf.scan k hs hS, Blk.aw h.tg k (fun e => h.tr.2.1 (hS _ e)), Blk.aw h.tu k (fun e => h.ur.2.1 (hS _ e)), h.tr, h.ur⟩
theorem LT.name (h : LT w0 w r g f rv s a no nm vl off pos kind t tn tv toff tpos u) (v : ByteArray) : LT w0 (w.setCell ⟨t, 0, none⟩ (.string v)) r g f rv s a no nm vl off pos kind t v tv toff tpos u :=
  ⟨h.lf.far _ h.tr.1 h.tr.2.1 h.tr.2.2.1 h.tr.2.2.2.2, Blk.set_ h.tg 0 (.string v), Blk.far h.tu h.tr.2.2.2.1.symm _, h.tr, h.ur⟩
theorem LT.value (h : LT w0 w r g f rv s a no nm vl off pos kind t tn tv toff tpos u) (v : ByteArray) : LT w0 (w.setCell ⟨t, 1, none⟩ (.string v)) r g f rv s a no nm vl off pos kind t tn v toff tpos u :=
  ⟨h.lf.far _ h.tr.1 h.tr.2.1 h.tr.2.2.1 h.tr.2.2.2.2, Blk.set_ h.tg 1 (.string v), Blk.far h.tu h.tr.2.2.2.1.symm _, h.tr, h.ur⟩
theorem LT.pos_ (h : LT w0 w r g f rv s a no nm vl off pos kind t tn tv toff tpos u) (k : Nat) : LT w0 (w.setCell ⟨t, 3, none⟩ (.int .i64 (k : Int))) r g f rv s a no nm vl off pos kind t tn tv toff k u :=
  ⟨h.lf.far _ h.tr.1 h.tr.2.1 h.tr.2.2.1 h.tr.2.2.2.2, Blk.set_ h.tg 3 (.int .i64 (k : Int)), Blk.far h.tu h.tr.2.2.2.1.symm _, h.tr, h.ur⟩
/-- Behind a callee that turns the scanner and the field. -/
theorem LT.call (h : LT w0 w r g f rv s a no nm vl off pos kind t tn tv toff tpos u) (k : LF w w' r g f rv s a' no' nm' vl' off' pos' kind') : LT w0 w' r g f rv s a' no' nm' vl' off' pos' kind' t tn tv toff tpos u :=
  ⟨h.lf.rebase k, Blk.aw h.tg k.aw (by simp; exact ⟨h.tr.2.1, h.tr.2.2.1⟩), Blk.aw h.tu k.aw (by simp; exact ⟨h.ur.2.1, h.ur.2.2.1⟩), h.tr, h.ur⟩
end
set_option maxRecDepth 100000 in
set_option maxHeartbeats 3200000 in
theorem tagF_any (r g f b : Nat) (rv : Value) (s : ByteArray) (a : Nat) (no : Bool) (nm vl : ByteArray) (off pos : Nat) (T1 : List UInt8) (a1 a2 : Nat) (n1 n2 : Bool) (kd : Nat) (v : List UInt8) (p a3 : Nat) (n3 : Bool) (w : World) (h : LF w w r g f rv s a no nm vl off pos 0) (hb : Bx w b r) (hbf : b ≠ f) (hbg : b ≠ g) (ha : a ≤ s.size) (hs : s.size ≤ 1048576)
    (h1 : sgn s.data.toList inK false a no = (T1, a1, n1)) (h2 : wordS s.data.toList [61] a1 n1 = (a2, n2)) (h3 : toldS s.data.toList a2 n2 = ((kd, v, p), a3, n3)) :
    Calls Try.prog 59 #[.pointer (some ⟨r, 0, none⟩), .func (.func 79) #[] #[.pointer (some ⟨f, 0, none⟩), .pointer (some ⟨b, 0, none⟩)]] w fun e w' => e = .returned (.agg #[.string (mkS T1), .string ⟨#[]⟩, .int .i64 (a : Int), .int .i64 (a2 : Int)]) ∧ LF w w' r g f rv s a3 n3 nm (mkS v) off p kd := by
  have hL : s.data.toList.length = s.size := by simp
  have hs2 : s.size ≤ 4611686018427387904 := Nat.le_trans hs (by decide)
  have hl1 := sgn_le s.data.toList inK false a no (by rw [hL]; exact ha)
  rw [h1, hL] at hl1
  have hl2 := wordS_le s.data.toList [61] a1 n1 (by rw [hL]; exact hl1.2.1)
  rw [h2, hL] at hl2
  simp only at hl1 hl2
  have kA := fun W h => at_any g s a no W h
  have kA2 := fun W h => at_any g s a2 n2 W h
  have kS := fun W h => signs_any g s ⟨#[44, 32, 61]⟩ false a no T1 a1 n1 W h ha hs (by decide) h1
  have kW := fun W h => word_any g s ⟨#[61]⟩ a1 n1 a2 n2 W h hl1.2.1 hs2 (by decide) h2
  have hr := Blk.lt h.rd
  have hg := Blk.lt h.sc
  have hf := Blk.lt h.fd
  have hbl := Blk.lt hb
  generalize mkS T1 = V1 at kS ⊢
  have kF := fun W t tn h ht hb => fieldFn_any r g f t b rv s a2 n2 nm vl tn ⟨#[]⟩ off pos a kd v p a3 n3 W h ht hb hbf hl2.2 hs h3
  have La := h.alloc (.cells #[.string ⟨#[]⟩, .string ⟨#[]⟩, .int .i64 0, .int .i64 0] 46)
  have L1 : LT w ((w.alloc (.cells #[.string ⟨#[]⟩, .string ⟨#[]⟩, .int .i64 0, .int .i64 0] 46)).alloc (.cells #[.string ⟨#[]⟩, .string ⟨#[]⟩, .int .i64 (a : Int), .int .i64 0] 46)) r g f rv s a no nm vl off pos 0 (w.heap.size + 1) ⟨#[]⟩ ⟨#[]⟩ a 0 w.heap.size :=
    ⟨La.alloc _, by
      have := Blk.new (w.alloc (.cells #[.string ⟨#[]⟩, .string ⟨#[]⟩, .int .i64 0, .int .i64 0] 46)) 46 #[.string ⟨#[]⟩, .string ⟨#[]⟩, .int .i64 (a : Int), .int .i64 0]
      simpa [Tg] using this, Blk.alloc (Blk.new w _ _) _, ⟨by omega, by omega, by omega, by omega, by omega⟩, ⟨by omega, by omega, by omega, by omega⟩⟩
  obtain ⟨x0, _, _⟩ := La.rd.facts
  clear h1 h2 h3 hL hl1 hl2
  go_enter Try.func59, Try.ntmps59
  go_wp2_with (first
    | (go_at_call 25; (with_reducible refine (kA _ La.sc).mono ?_); rintro e w1 ⟨rfl, rfl⟩; obtain ⟨y0, _, _⟩ := L1.lf.rd.facts)
    | (go_at_call 57; (with_reducible refine (kS _ L1.lf.sc).mono ?_); rintro e w2 ⟨rfl, h2, hA2⟩; have L2 := L1.scan hA2 h2 (by simp); obtain ⟨_, f0, f1, f2, f3⟩ := L2.tg.facts; have L3 := L2.name V1; obtain ⟨z0, _, _⟩ := L3.lf.rd.facts)
    | (go_at_call 61; (with_reducible refine (kW _ L3.lf.sc).mono ?_); rintro e w4 ⟨rfl, h4, hA4⟩; have L4 := L3.scan hA4 h4 (by simp); obtain ⟨_, f0, f1, f2, f3⟩ := L4.tg.facts; obtain ⟨v0, _, _⟩ := L4.lf.rd.facts)
    | (go_at_call 25; (with_reducible refine (kA2 _ L4.lf.sc).mono ?_); rintro e w5 ⟨rfl, rfl⟩; have L5 := L4.pos_ a2)
    | (go_at_call 79; refine (kF _ _ _ L5.lf.self L5.tg (Blk.aw hb L5.lf.aw (by simp; exact ⟨hbg, hbf⟩))).mono ?_; rintro e w6 ⟨rfl, k6⟩; have L6 := L5.call k6; obtain ⟨⟨c0, c1, c2, c3⟩, _⟩ := L6.tg.facts; obtain ⟨⟨d0, d1, d2, d3⟩, g0, g1, g2, g3⟩ := L6.tu.facts))
  have n0 := L6.ur.1
  have n1 := L6.ur.2.1
  have n2 := L6.ur.2.2.1
  exact bodyPost_ret (v := .agg #[.string V1, .string ⟨#[]⟩, .int .i64 (a : Int), .int .i64 (a2 : Int)]) (by simp [results, Try.results59, go_sem, d0, d1, d2, d3]) rfl ⟨rfl, (((L6.lf.far _ n0 n1 n2 (Nat.le_refl _)).far _ n0 n1 n2 (Nat.le_refl _)).far _ n0 n1 n2 (Nat.le_refl _)).far _ n0 n1 n2 (Nat.le_refl _)⟩
end Go.Proofs.Ytdngieihlcknmaa
