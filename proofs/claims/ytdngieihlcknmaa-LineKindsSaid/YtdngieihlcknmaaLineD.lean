/- The walks of package lineword: a tag of a row. -/
import Derived.Test.YtdngieihlcknmaaLineC
namespace Go.Proofs.Ytdngieihlcknmaa
set_option linter.unusedVariables false
set_option linter.unusedSimpArgs false
open Go.RowKit
attribute [local go_sem ↓] Go.wp_at_zero Go.wp_at_succ
/-- The reader, its scanner, a tag of the call's own, the block of the result. -/
structure LU (w0 w : World) (r g : Nat) (rv : Value) (s : ByteArray) (a : Nat) (no : Bool) (t : Nat) (tn tv : ByteArray) (toff tpos : Nat) (u : Nat) : Prop where
  lr : LR w0 w r g rv s a no
  tg : Tg w t tn tv toff tpos
  tu : Tg w u ⟨#[]⟩ ⟨#[]⟩ 0 0
  tr : t ≠ r ∧ t ≠ g ∧ t ≠ u ∧ w0.heap.size ≤ t
  ur : u ≠ r ∧ u ≠ g ∧ w0.heap.size ≤ u
section
variable {w0 w w' : World} {r g : Nat} {rv : Value} {s : ByteArray} {a a' : Nat} {no no' : Bool} {t u : Nat} {tn tv : ByteArray} {toff tpos : Nat}
theorem LU.scan {S : List Nat} (h : LU w0 w r g rv s a no t tn tv toff tpos u) (k : Aw S w w') (hs : Sc w' g s a' no') (hS : ∀ i, i ∈ S → i = g) : LU w0 w' r g rv s a' no' t tn tv toff tpos u :=
  ⟨h.lr.scan k hs hS, Blk.aw h.tg k (fun e => h.tr.2.1 (hS _ e)), Blk.aw h.tu k (fun e => h.ur.2.1 (hS _ e)), h.tr, h.ur⟩
theorem LU.name (h : LU w0 w r g rv s a no t tn tv toff tpos u) (v : ByteArray) : LU w0 (w.setCell ⟨t, 0, none⟩ (.string v)) r g rv s a no t v tv toff tpos u :=
  ⟨h.lr.far _ h.tr.1 h.tr.2.1 h.tr.2.2.2, Blk.set_ h.tg 0 (.string v), Blk.far h.tu h.tr.2.2.1.symm _, h.tr, h.ur⟩
theorem LU.pos_ (h : LU w0 w r g rv s a no t tn tv toff tpos u) (k : Nat) : LU w0 (w.setCell ⟨t, 3, none⟩ (.int .i64 (k : Int))) r g rv s a no t tn tv toff k u :=
  ⟨h.lr.far _ h.tr.1 h.tr.2.1 h.tr.2.2.2, Blk.set_ h.tg 3 (.int .i64 (k : Int)), Blk.far h.tu h.tr.2.2.1.symm _, h.tr, h.ur⟩
theorem LU.call {tv' : ByteArray} (h : LU w0 w r g rv s a no t tn tv toff tpos u) (k1 : Rd w' r g rv) (k2 : Sc w' g s a' no') (k3 : Tg w' t tn tv' toff tpos) (k : Aw [g, t] w w') : LU w0 w' r g rv s a' no' t tn tv' toff tpos u :=
  ⟨⟨k1, k2, h.lr.rg, h.lr.aw.own k (by
    intro i hi
    simp only [List.mem_cons, List.not_mem_nil, or_false] at hi
    rcases hi with rfl | rfl
    · exact .inl (by simp)
    · exact .inr h.tr.2.2.2)⟩, k3, Blk.aw h.tu k (by simp; exact ⟨h.ur.2.1, h.tr.2.2.1.symm⟩), h.tr, h.ur⟩
end
set_option maxRecDepth 100000 in
set_option maxHeartbeats 3200000 in
theorem lineFn_any (r g t b : Nat) (rv : Value) (s : ByteArray) (a : Nat) (no : Bool) (tn tv : ByteArray) (toff tpos : Nat) (T : List UInt8) (a' : Nat) (no' : Bool) (w : World) (h : LR w w r g rv s a no) (ht : Tg w t tn tv toff tpos) (hb : Bx w b r) (htr : t ≠ r) (htg : t ≠ g) (ha : a ≤ s.size) (hs : s.size ≤ 1048576) (hR : sgn s.data.toList inK true a no = (T, a', no')) :
    Calls Try.prog 60 #[.pointer (some ⟨t, 0, none⟩), .pointer (some ⟨b, 0, none⟩)] w fun e w' => e = .returned (.tuple #[]) ∧ Rd w' r g rv ∧ Sc w' g s a' no' ∧ Tg w' t tn (mkS T) toff tpos ∧ Aw [g, t] w w' := by
  have kS := fun W h => signs_any g s ⟨#[44, 32, 61]⟩ true a no T a' no' W h ha hs (by decide) hR
  have b0 := hb.cell
  obtain ⟨c0, _, _⟩ := h.rd.facts
  clear hR
  generalize mkS T = V at kS ⊢
  go_enter Try.func60, Try.ntmps60
  go_wp2_with (go_at_call 57; refine (kS _ h.sc).mono ?_; rintro e w1 ⟨rfl, h1, hA1⟩; have ht1 := Blk.aw ht hA1 (by simp; exact htg); obtain ⟨_, u0, u1, u2, u3⟩ := Tg.facts ht1)
  go_end0
  exact ⟨rfl, Blk.far (Blk.aw h.rd hA1 (by simp; exact h.rg)) htr.symm _, Blk.far h1 htg.symm _, Blk.set_ ht1 1 (.string V), (hA1.mono (by simp)).setCell (.inl (by simp)) _⟩
set_option maxRecDepth 100000 in
set_option maxHeartbeats 3200000 in
theorem tagL_any (r g b : Nat) (rv : Value) (s : ByteArray) (a : Nat) (no : Bool) (X : MTag) (a' : Nat) (no' : Bool) (w : World) (h : LR w w r g rv s a no) (hb : Bx w b r) (hbg : b ≠ g) (ha : a ≤ s.size) (hs : s.size ≤ 1048576) (hR : tagS s.data.toList a no = (X, a', no')) :
    Calls Try.prog 59 #[.pointer (some ⟨r, 0, none⟩), .func (.func 60) #[] #[.pointer (some ⟨b, 0, none⟩)]] w fun e w' => e = .returned (.agg #[.string X.name, .string X.value, .int .i64 (X.off : Int), .int .i64 (X.pos : Int)]) ∧ LR w w' r g rv s a' no' := by
  have hL : s.data.toList.length = s.size := by simp
  have hs2 : s.size ≤ 4611686018427387904 := Nat.le_trans hs (by decide)
  obtain ⟨T1, a1, n1, h1⟩ : ∃ T1 a1 n1, sgn s.data.toList inK false a no = (T1, a1, n1) := ⟨_, _, _, rfl⟩
  obtain ⟨a2, n2, h2⟩ : ∃ a2 n2, wordS s.data.toList [61] a1 n1 = (a2, n2) := ⟨_, _, rfl⟩
  obtain ⟨T3, a3, n3, h3⟩ : ∃ T3 a3 n3, sgn s.data.toList inK true a2 n2 = (T3, a3, n3) := ⟨_, _, _, rfl⟩
  unfold tagS at hR
  simp only [h1, h2, h3] at hR
  obtain ⟨rfl, rfl, rfl⟩ : (⟨mkS T1, mkS T3, a, a2⟩ : MTag) = X ∧ a3 = a' ∧ n3 = no' := by
    injection hR with e1 e2; injection e2 with e3 e4; exact ⟨e1, e3, e4⟩
  have hl1 := sgn_le s.data.toList inK false a no (by rw [hL]; exact ha)
  rw [h1, hL] at hl1
  have hl2 := wordS_le s.data.toList [61] a1 n1 (by rw [hL]; exact hl1.2.1)
  rw [h2, hL] at hl2
  simp only at hl1 hl2
  have kA := fun W h => at_any g s a no W h
  have kA2 := fun W h => at_any g s a2 n2 W h
  have kS := fun W h => signs_any g s ⟨#[44, 32, 61]⟩ false a no T1 a1 n1 W h ha hs (by decide) h1
  have kW := fun W h => word_any g s ⟨#[61]⟩ a1 n1 a2 n2 W h hl1.2.1 hs2 (by decide) h2
  have hr := Blk.lt h.rd
  have hg := Blk.lt h.sc
  have hbl := Blk.lt hb
  simp only
  generalize mkS T1 = V1 at kS ⊢
  have kF := fun W t tn h ht hb htr htg => lineFn_any r g t b rv s a2 n2 tn ⟨#[]⟩ a a2 T3 a3 n3 W h ht hb htr htg hl2.2 hs h3
  generalize mkS T3 = V3 at kF ⊢
  have La := h.alloc (.cells #[.string ⟨#[]⟩, .string ⟨#[]⟩, .int .i64 0, .int .i64 0] 46)
  have L1 : LU w ((w.alloc (.cells #[.string ⟨#[]⟩, .string ⟨#[]⟩, .int .i64 0, .int .i64 0] 46)).alloc (.cells #[.string ⟨#[]⟩, .string ⟨#[]⟩, .int .i64 (a : Int), .int .i64 0] 46)) r g rv s a no (w.heap.size + 1) ⟨#[]⟩ ⟨#[]⟩ a 0 w.heap.size :=
    ⟨La.alloc _, by
      have := Blk.new (w.alloc (.cells #[.string ⟨#[]⟩, .string ⟨#[]⟩, .int .i64 0, .int .i64 0] 46)) 46 #[.string ⟨#[]⟩, .string ⟨#[]⟩, .int .i64 (a : Int), .int .i64 0]
      simpa [Tg] using this, Blk.alloc (Blk.new w _ _) _, ⟨by omega, by omega, by omega, by omega⟩, ⟨by omega, by omega, by omega⟩⟩
  obtain ⟨x0, _, _⟩ := La.rd.facts
  clear h1 h2 h3 hL hl1 hl2 hR
  go_enter Try.func59, Try.ntmps59
  go_wp2_with (first
    | (go_at_call 25; (with_reducible refine (kA _ La.sc).mono ?_); rintro e w1 ⟨rfl, rfl⟩; obtain ⟨y0, _, _⟩ := L1.lr.rd.facts)
    | (go_at_call 57; (with_reducible refine (kS _ L1.lr.sc).mono ?_); rintro e w2 ⟨rfl, h2, hA2⟩; have L2 := L1.scan hA2 h2 (by simp); obtain ⟨_, f0, f1, f2, f3⟩ := L2.tg.facts; have L3 := L2.name V1; obtain ⟨z0, _, _⟩ := L3.lr.rd.facts)
    | (go_at_call 61; (with_reducible refine (kW _ L3.lr.sc).mono ?_); rintro e w4 ⟨rfl, h4, hA4⟩; have L4 := L3.scan hA4 h4 (by simp); obtain ⟨_, f0, f1, f2, f3⟩ := L4.tg.facts; obtain ⟨v0, _, _⟩ := L4.lr.rd.facts)
    | (go_at_call 25; (with_reducible refine (kA2 _ L4.lr.sc).mono ?_); rintro e w5 ⟨rfl, rfl⟩; have L5 := L4.pos_ a2)
    | (go_at_call 60; refine (kF _ _ _ L5.lr.self L5.tg (Blk.aw hb L5.lr.aw (by simp; exact hbg)) L5.tr.1 L5.tr.2.1).mono ?_; rintro e w6 ⟨rfl, k1, k2, k3, k4⟩; have L6 := L5.call k1 k2 k3 k4; obtain ⟨⟨c0, c1, c2, c3⟩, _⟩ := L6.tg.facts; obtain ⟨⟨d0, d1, d2, d3⟩, g0, g1, g2, g3⟩ := L6.tu.facts))
  have n0 := L6.ur.1
  have n1 := L6.ur.2.1
  exact bodyPost_ret (v := .agg #[.string V1, .string V3, .int .i64 (a : Int), .int .i64 (a2 : Int)]) (by simp [results, Try.results59, go_sem, d0, d1, d2, d3]) rfl ⟨rfl, (((L6.lr.far _ n0 n1 (Nat.le_refl _)).far _ n0 n1 (Nat.le_refl _)).far _ n0 n1 (Nat.le_refl _)).far _ n0 n1 (Nat.le_refl _)⟩
end Go.Proofs.Ytdngieihlcknmaa
