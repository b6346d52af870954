/- The walks of package lineword: a field, a tag of a row. -/
import Derived.Test.YtdngieihlcknmaaLineB
namespace Go.Proofs.Ytdngieihlcknmaa
set_option linter.unusedVariables false
set_option linter.unusedSimpArgs false
open Go.RowKit
attribute [local go_sem ↓] Go.wp_at_zero Go.wp_at_succ
/-- The reader and its scanner behind a call's beginning. -/
structure LR (w0 w : World) (r g : Nat) (rv : Value) (s : ByteArray) (a : Nat) (no : Bool) : Prop where
  rd : Rd w r g rv
  sc : Sc w g s a no
  rg : r ≠ g
  aw : Aw [g] w0 w
section
variable {w0 w w' : World} {r g : Nat} {rv : Value} {s : ByteArray} {a a' : Nat} {no no' : Bool}
theorem LR.scan {S : List Nat} (h : LR w0 w r g rv s a no) (k : Aw S w w') (hs : Sc w' g s a' no') (hS : ∀ i, i ∈ S → i = g) : LR w0 w' r g rv s a' no' :=
  ⟨Blk.aw h.rd k (fun e => h.rg (hS _ e)), hs, h.rg, h.aw.trans (k.mono (fun i hi => by rw [hS i hi]; simp))⟩
theorem LR.alloc (h : LR w0 w r g rv s a no) (o : Obj) : LR w0 (w.alloc o) r g rv s a no := ⟨Blk.alloc h.rd o, Blk.alloc h.sc o, h.rg, h.aw.alloc o⟩
theorem LR.far (h : LR w0 w r g rv s a no) {p : Addr} (u : Value) (h1 : p.block ≠ r) (h2 : p.block ≠ g) (h4 : w0.heap.size ≤ p.block) : LR w0 (w.setCell p u) r g rv s a no :=
  ⟨Blk.far h.rd h1.symm u, Blk.far h.sc h2.symm u, h.rg, h.aw.setCell (.inr h4) u⟩
theorem LR.self (h : LR w0 w r g rv s a no) : LR w w r g rv s a no := ⟨h.rd, h.sc, h.rg, Aw.refl _ _⟩
theorem LR.rebase (h : LR w0 w r g rv s a no) (k : LR w w' r g rv s a' no') : LR w0 w' r g rv s a' no' := ⟨k.rd, k.sc, k.rg, h.aw.trans k.aw⟩
theorem LR.drew (h : LR w0 w r g rv s a no) : LR w0 w.drew r g rv s a no := ⟨h.rd, h.sc, h.rg, h.aw.drew⟩
theorem LR.drewN (h : LR w0 w r g rv s a no) (n : Nat) : LR w0 (w.drewN n) r g rv s a no := ⟨h.rd, h.sc, h.rg, h.aw.drewN n⟩
/-- With a field of the call's own. -/
theorem LR.withF {f : Nat} {nm vl : ByteArray} {off pos kind : Nat} (h : LR w0 w r g rv s a no) (hf : Fd w f nm vl off pos kind) (h1 : r ≠ f) (h2 : g ≠ f) : LF w w r g f rv s a no nm vl off pos kind := ⟨h.rd, h.sc, hf, h.rg, h1, h2, Aw.refl _ _⟩
theorem LR.ofF {f : Nat} {nm' vl' : ByteArray} {off' pos' kind' : Nat} (h : LR w0 w r g rv s a no) (k : LF w w' r g f rv s a' no' nm' vl' off' pos' kind') (hf : w0.heap.size ≤ f) : LR w0 w' r g rv s a' no' :=
  ⟨k.rd, k.sc, k.rg, h.aw.own k.aw (fun i hi => by
    simp only [List.mem_cons, List.not_mem_nil, or_false] at hi
    rcases hi with rfl | rfl
    · exact .inl (by simp)
    · exact .inr hf)⟩
end
set_option maxRecDepth 100000 in
set_option maxHeartbeats 3200000 in
theorem field_any (r g : Nat) (rv : Value) (s : ByteArray) (a : Nat) (no : Bool) (F : MField) (a' : Nat) (no' : Bool) (w : World) (h : LR w w r g rv s a no) (ha : a ≤ s.size) (hs : s.size ≤ 1048576) (hR : fieldS s.data.toList a no = (F, a', no')) :
    Calls Try.prog 62 #[.pointer (some ⟨r, 0, none⟩)] w fun e w' => e = .returned (.agg #[.string F.name, .string F.value, .int .i64 (F.off : Int), .int .i64 (F.pos : Int), .int .i64 (F.kind : Int)]) ∧ LR w w' r g rv s a' no' := by
  have hL : s.data.toList.length = s.size := by simp
  obtain ⟨T1, a1, n1, h1⟩ : ∃ T1 a1 n1, sgn s.data.toList inK false a no = (T1, a1, n1) := ⟨_, _, _, rfl⟩
  obtain ⟨a2, n2, h2⟩ : ∃ a2 n2, wordS s.data.toList [61] a1 n1 = (a2, n2) := ⟨_, _, rfl⟩
  obtain ⟨kd, v, p, a3, n3, h3⟩ : ∃ kd v p a3 n3, toldS s.data.toList a2 n2 = ((kd, v, p), a3, n3) := ⟨_, _, _, _, _, rfl⟩
  unfold fieldS at hR
  simp only [h1, h2, h3] at hR
  obtain ⟨rfl, rfl, rfl⟩ : (⟨mkS T1, mkS v, a, p, kd⟩ : MField) = F ∧ a3 = a' ∧ n3 = no' := by
    injection hR with e1 e2; injection e2 with e3 e4; exact ⟨e1, e3, e4⟩
  have hr := Blk.lt h.rd
  have hg := Blk.lt h.sc
  have kT := fun W f b h hb hbf hbg => tagF_any r g f b rv s a no ⟨#[]⟩ ⟨#[]⟩ 0 0 T1 a1 a2 n1 n2 kd v p a3 n3 W h hb hbf hbg ha hs h1 h2 h3
  have L1 := ((h.alloc (.cells #[.pointer (some ⟨r, 0, none⟩)] 55)).alloc (.cells #[.string ⟨#[]⟩, .string ⟨#[]⟩, .int .i64 0, .int .i64 0, .int .i64 0] 48)).alloc (.cells #[.string ⟨#[]⟩, .string ⟨#[]⟩, .int .i64 0, .int .i64 0, .int .i64 0] 48)
  clear h1 h2 h3 hR
  simp only
  generalize mkS T1 = V1 at kT ⊢
  generalize mkS v = V2 at kT ⊢
  have hB : Bx (((w.alloc (.cells #[.pointer (some ⟨r, 0, none⟩)] 55)).alloc (.cells #[.string ⟨#[]⟩, .string ⟨#[]⟩, .int .i64 0, .int .i64 0, .int .i64 0] 48)).alloc (.cells #[.string ⟨#[]⟩, .string ⟨#[]⟩, .int .i64 0, .int .i64 0, .int .i64 0] 48)) w.heap.size r := Blk.alloc (Blk.alloc (Blk.new w _ _) _) _
  have hU : Fd (((w.alloc (.cells #[.pointer (some ⟨r, 0, none⟩)] 55)).alloc (.cells #[.string ⟨#[]⟩, .string ⟨#[]⟩, .int .i64 0, .int .i64 0, .int .i64 0] 48)).alloc (.cells #[.string ⟨#[]⟩, .string ⟨#[]⟩, .int .i64 0, .int .i64 0, .int .i64 0] 48)) (w.heap.size + 1) ⟨#[]⟩ ⟨#[]⟩ 0 0 0 := by
    have := Blk.alloc (Blk.new (w.alloc (.cells #[.pointer (some ⟨r, 0, none⟩)] 55)) 48 #[.string ⟨#[]⟩, .string ⟨#[]⟩, .int .i64 0, .int .i64 0, .int .i64 0]) (.cells #[.string ⟨#[]⟩, .string ⟨#[]⟩, .int .i64 0, .int .i64 0, .int .i64 0] 48)
    simpa [Fd] using this
  have hF : Fd (((w.alloc (.cells #[.pointer (some ⟨r, 0, none⟩)] 55)).alloc (.cells #[.string ⟨#[]⟩, .string ⟨#[]⟩, .int .i64 0, .int .i64 0, .int .i64 0] 48)).alloc (.cells #[.string ⟨#[]⟩, .string ⟨#[]⟩, .int .i64 0, .int .i64 0, .int .i64 0] 48)) (w.heap.size + 1 + 1) ⟨#[]⟩ ⟨#[]⟩ 0 0 0 := by
    have := Blk.new ((w.alloc (.cells #[.pointer (some ⟨r, 0, none⟩)] 55)).alloc (.cells #[.string ⟨#[]⟩, .string ⟨#[]⟩, .int .i64 0, .int .i64 0, .int .i64 0] 48)) 48 #[.string ⟨#[]⟩, .string ⟨#[]⟩, .int .i64 0, .int .i64 0, .int .i64 0]
    simpa [Fd] using this
  have L1f := L1.withF hF (by omega) (by omega)
  go_enter Try.func62, Try.ntmps62
  go_wp2_with fail
  refine (kT _ _ _ L1f hB (by omega) (by omega)).mono ?_
  rintro e w1 ⟨rfl, k1⟩
  have L2 := L1.ofF k1 (by omega)
  have hU1 := Blk.aw hU k1.aw (by simp; omega)
  have hF1 := k1.fd
  go_wp2_with fail
  have hz := Blk.lt hF1
  have hz2 := Blk.lt hU1
  have hF2 : Fd (w1.alloc (.cells #[.string V1, .string ⟨#[]⟩, .int .i64 (a : Int), .int .i64 (a2 : Int)] 46)) (w.heap.size + 1 + 1) ⟨#[]⟩ V2 0 p kd := Blk.alloc hF1 _
  have hU2 : Fd (w1.alloc (.cells #[.string V1, .string ⟨#[]⟩, .int .i64 (a : Int), .int .i64 (a2 : Int)] 46)) (w.heap.size + 1) ⟨#[]⟩ ⟨#[]⟩ 0 0 0 := Blk.alloc hU1 _
  have hT2 : Tg (w1.alloc (.cells #[.string V1, .string ⟨#[]⟩, .int .i64 (a : Int), .int .i64 (a2 : Int)] 46)) w1.heap.size V1 ⟨#[]⟩ a a2 := Blk.new w1 _ _
  have L3 := L2.alloc (.cells #[.string V1, .string ⟨#[]⟩, .int .i64 (a : Int), .int .i64 (a2 : Int)] 46)
  generalize (w1.alloc (.cells #[.string V1, .string ⟨#[]⟩, .int .i64 (a : Int), .int .i64 (a2 : Int)] 46)) = w2 at hF2 hU2 hT2 L3 ⊢
  have hne : w1.heap.size ≠ w.heap.size + 1 + 1 := by omega
  generalize w1.heap.size = t at hT2 hne ⊢
  obtain ⟨⟨c0, c1, c2, c3⟩, _⟩ := hT2.facts
  obtain ⟨⟨d0, d1, d2, d3, d4⟩, u0, u1, u2, u3, u4⟩ := hF2.facts
  obtain ⟨⟨e0, e1, e2, e3, e4⟩, v0, v1, v2, v3, v4⟩ := hU2.facts
  clear hU hF hB k1 L1f kT L1 L2 hU1 hF1
  have x1 : w.heap.size + 1 + 1 ≠ r := by omega
  have x2 : w.heap.size + 1 + 1 ≠ g := by omega
  have x3 : w.heap.size ≤ w.heap.size + 1 + 1 := by omega
  have y1 : w.heap.size + 1 ≠ r := by omega
  have y2 : w.heap.size + 1 ≠ g := by omega
  have y3 : w.heap.size ≤ w.heap.size + 1 := by omega
  have L4 : LR w (((((((w2.setCell ⟨w.heap.size + 1 + 1, 0, none⟩ (.string V1)).setCell ⟨w.heap.size + 1 + 1, 2, none⟩ (.int .i64 (a : Int))).setCell ⟨w.heap.size + 1, 0, none⟩ (.string V1)).setCell ⟨w.heap.size + 1, 1, none⟩ (.string V2)).setCell ⟨w.heap.size + 1, 2, none⟩ (.int .i64 (a : Int))).setCell ⟨w.heap.size + 1, 3, none⟩ (.int .i64 (p : Int))).setCell ⟨w.heap.size + 1, 4, none⟩ (.int .i64 (kd : Int))).drew r g rv s a3 n3 :=
    (((((((L3.far _ x1 x2 x3).far _ x1 x2 x3).far _ y1 y2 y3).far _ y1 y2 y3).far _ y1 y2 y3).far _ y1 y2 y3).far _ y1 y2 y3).drew
  go_region
  all_goals
    go_wp2_with fail
    exact bodyPost_ret (v := .agg #[.string V1, .string V2, .int .i64 (a : Int), .int .i64 (p : Int), .int .i64 (kd : Int)]) (by simp [results, Try.results62, go_sem, e0, e1, e2, e3, e4]) rfl ⟨rfl, L4⟩
end Go.Proofs.Ytdngieihlcknmaa
