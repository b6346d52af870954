/- The walk of the reference's line: what it holds under way. -/
import Derived.Test.YtdngieihlcknmaaRefF
import Derived.Test.YtdngieihlcknmaaRefG
import Derived.Test.YtdngieihlcknmaaLineG
namespace Go.Proofs.Ytdngieihlcknmaa
set_option linter.unusedVariables false
set_option linter.unusedSimpArgs false
open Go.RowKit
/-- The scanner, the block of what is told, the row under way, its tags, its fields. -/
structure RLX (w0 w : World) (g q x : Nat) (s : ByteArray) (a : Nat) (no : Bool) (nm : ByteArray) (off : Nat) (tv : Value) (tags : List MTag) (fv : Value) (flds : List MField) (timed : Bool) (time : ByteArray) (wh : Nat) : Prop where
  sr : Sr w g s a no
  rs : Rw w q ⟨#[]⟩ 0 (.slice none 0 0) (.slice none 0 0) false ⟨#[]⟩ 0
  rw_ : Rw w x nm off tv fv timed time wh
  tg : w.ownsRow w0.heap.size 46 4 tv tags.length (tags.flatMap tagCell)
  fl : w.ownsRow w0.heap.size 48 5 fv flds.length (flds.flatMap fieldCell)
  gl : g < w0.heap.size
  ql : w0.heap.size ≤ q
  xl : w0.heap.size ≤ x
  qx : q ≠ x
  aw : Aw [g] w0 w
section
variable {w0 w w' : World} {g q x : Nat} {s : ByteArray} {a a' : Nat} {no no' : Bool} {nm : ByteArray} {off : Nat} {tv tv' : Value} {tags : List MTag} {fv fv' : Value} {flds : List MField} {timed : Bool} {time : ByteArray} {wh : Nat}
theorem RLX.scan (h : RLX w0 w g q x s a no nm off tv tags fv flds timed time wh) (hs : Sr w' g s a' no') (k : Aw [g] w w') : RLX w0 w' g q x s a' no' nm off tv tags fv flds timed time wh :=
  ⟨hs, Blk.aw h.rs k (by have := h.gl; have := h.ql; simp; omega), Blk.aw h.rw_ k (by have := h.gl; have := h.xl; simp; omega),
    own_aw h.tg k (fun i hi e => by have := h.gl; have := (h.tg.lt i hi).1; simp at e; omega), own_aw h.fl k (fun i hi e => by have := h.gl; have := (h.fl.lt i hi).1; simp at e; omega), h.gl, h.ql, h.xl, h.qx, h.aw.trans k⟩
theorem RLX.at_ (h : RLX w0 w g q x s a no nm off tv tags fv flds timed time wh) (n : Nat) : RLX w0 (w.setCell ⟨g, 1, none⟩ (.int .i64 (n : Int))) g q x s n no nm off tv tags fv flds timed time wh :=
  h.scan (h.sr.atN n) ((Aw.refl _ _).setCell (.inl (by simp)) _)
theorem RLX.drewN (h : RLX w0 w g q x s a no nm off tv tags fv flds timed time wh) (n : Nat) : RLX w0 (w.drewN n) g q x s a no nm off tv tags fv flds timed time wh :=
  h.scan (h.sr.drewN n) ((Aw.refl _ _).drewN n)
theorem RLX.drew (h : RLX w0 w g q x s a no nm off tv tags fv flds timed time wh) : RLX w0 w.drew g q x s a no nm off tv tags fv flds timed time wh :=
  h.scan h.sr.drew (Aw.refl _ _).drew
/-- All that is no scanner: behind anything that turns blocks of the call's own that are none of these. -/
theorem RLX.own {S : List Nat} (h : RLX w0 w g q x s a no nm off tv tags fv flds timed time wh) (k : Aw S w w') (hS : ∀ i, i ∈ S → w0.heap.size ≤ i ∧ i ≠ q ∧ i ≠ x ∧ tv.ownBlock ≠ some i ∧ fv.ownBlock ≠ some i) : RLX w0 w' g q x s a no nm off tv tags fv flds timed time wh :=
  ⟨h.sr.aw k (fun e => by have := h.gl; have := (hS _ e).1; omega), Blk.aw h.rs k (fun e => (hS _ e).2.1 rfl), Blk.aw h.rw_ k (fun e => (hS _ e).2.2.1 rfl),
    own_aw h.tg k (fun i hi e => (hS _ e).2.2.2.1 hi), own_aw h.fl k (fun i hi e => (hS _ e).2.2.2.2 hi), h.gl, h.ql, h.xl, h.qx, h.aw.own k (fun i hi => .inr (hS i hi).1)⟩
theorem RLX.alloc (h : RLX w0 w g q x s a no nm off tv tags fv flds timed time wh) (o : Obj) : RLX w0 (w.alloc o) g q x s a no nm off tv tags fv flds timed time wh :=
  h.own (S := []) ((Aw.refl _ _).alloc o) (by simp)
/-- A cell of a block of the call's own of another type is written. -/
theorem RLX.put' {t : Nat} (h : RLX w0 w g q x s a no nm off tv tags fv flds timed time wh) (h0 : w0.heap.size ≤ t) (h1 : t ≠ q) (h2 : t ≠ x) (h4 : tv.ownBlock ≠ some t) (h5 : fv.ownBlock ≠ some t) (i : Nat) (u : Value) : RLX w0 (w.setCell ⟨t, i, none⟩ u) g q x s a no nm off tv tags fv flds timed time wh :=
  h.own (S := [t]) ((Aw.refl _ _).setCell (.inl (by simp)) u) (fun i hi => by
    rw [List.mem_singleton] at hi; subst hi; exact ⟨h0, h1, h2, h4, h5⟩)
/-- A cell of the row under way is written. -/
theorem RLX.put {nm' : ByteArray} {timed' : Bool} {time' : ByteArray} {wh' : Nat} (h : RLX w0 w g q x s a no nm off tv tags fv flds timed time wh) (i : Nat) (u : Value) (hu : Rw (w.setCell ⟨x, i, none⟩ u) x nm' off tv fv timed' time' wh') : RLX w0 (w.setCell ⟨x, i, none⟩ u) g q x s a no nm' off tv tags fv flds timed' time' wh' := by
  have hg := h.gl
  have hx := h.xl
  have k : Aw [x] w (w.setCell ⟨x, i, none⟩ u) := (Aw.refl _ _).setCell (.inl (by simp)) u
  exact ⟨h.sr.aw k (by simp; omega), Blk.far h.rs h.qx u, hu, own_aw h.tg k (fun j hj e => by
      simp only [List.mem_cons, List.not_mem_nil, or_false] at e
      subst e; exact own_blk_ne h.tg h.rw_ (by decide) hj), own_aw h.fl k (fun j hj e => by
      simp only [List.mem_cons, List.not_mem_nil, or_false] at e
      subst e; exact own_blk_ne h.fl h.rw_ (by decide) hj), h.gl, h.ql, h.xl, h.qx, h.aw.setCell (.inr hx) u⟩
theorem RLX.tags_ (h : RLX w0 w g q x s a no nm off tv tags fv flds timed time wh) (k : Aw tv.ownBlock.toList w w') {t : MTag} (ho : w'.ownsRow w0.heap.size 46 4 tv' (tags.length + 1) (tags.flatMap tagCell ++ tagCell t)) : RLX w0 (w'.setCell ⟨x, 3, none⟩ tv') g q x s a no nm off tv' (tags ++ [t]) fv flds timed time wh := by
  have hg := h.gl
  have hx := h.xl
  have h1 : x ≠ g := by omega
  have hm : ∀ i, i ∈ tv.ownBlock.toList → w0.heap.size ≤ i := fun i hi => (h.tg.lt i (by simpa using hi)).1
  have hrs := Blk.aw h.rs k (fun e => own_blk_ne h.tg h.rs (by decide) (by simpa using e))
  have hrw := Blk.aw h.rw_ k (fun e => own_blk_ne h.tg h.rw_ (by decide) (by simpa using e))
  have hfl := own_aw h.fl k (fun i hi e => own_own_ne h.fl h.tg (by decide) i hi (by simpa using e))
  have hsr : Sr w' g s a no := h.sr.aw k (fun e => by have := hm _ e; omega)
  have k2 : Aw [x] w' (w'.setCell ⟨x, 3, none⟩ tv') := (Aw.refl _ _).setCell (.inl (by simp)) tv'
  have ht : w'.ownsRow w0.heap.size 46 4 tv' (tags ++ [t]).length ((tags ++ [t]).flatMap tagCell) := by simpa using ho
  exact ⟨hsr.aw k2 (by simp; omega), Blk.far hrs h.qx _, Blk.set_ hrw 3 tv', own_aw ht k2 (fun j hj e => by
      simp only [List.mem_cons, List.not_mem_nil, or_false] at e
      subst e; exact own_blk_ne ht hrw (by decide) hj), own_aw hfl k2 (fun j hj e => by
      simp only [List.mem_cons, List.not_mem_nil, or_false] at e
      subst e; exact own_blk_ne hfl hrw (by decide) hj), h.gl, h.ql, h.xl, h.qx, (h.aw.own k (fun i hi => .inr (hm i hi))).setCell (.inr hx) _⟩
theorem RLX.flds_ (h : RLX w0 w g q x s a no nm off tv tags fv flds timed time wh) (k : Aw fv.ownBlock.toList w w') {t : MField} (ho : w'.ownsRow w0.heap.size 48 5 fv' (flds.length + 1) (flds.flatMap fieldCell ++ fieldCell t)) : RLX w0 (w'.setCell ⟨x, 4, none⟩ fv') g q x s a no nm off tv tags fv' (flds ++ [t]) timed time wh := by
  have hg := h.gl
  have hx := h.xl
  have hm : ∀ i, i ∈ fv.ownBlock.toList → w0.heap.size ≤ i := fun i hi => (h.fl.lt i (by simpa using hi)).1
  have hrs := Blk.aw h.rs k (fun e => own_blk_ne h.fl h.rs (by decide) (by simpa using e))
  have hrw := Blk.aw h.rw_ k (fun e => own_blk_ne h.fl h.rw_ (by decide) (by simpa using e))
  have htg := own_aw h.tg k (fun i hi e => own_own_ne h.tg h.fl (by decide) i hi (by simpa using e))
  have hsr : Sr w' g s a no := h.sr.aw k (fun e => by have := hm _ e; omega)
  have k2 : Aw [x] w' (w'.setCell ⟨x, 4, none⟩ fv') := (Aw.refl _ _).setCell (.inl (by simp)) fv'
  have ht : w'.ownsRow w0.heap.size 48 5 fv' (flds ++ [t]).length ((flds ++ [t]).flatMap fieldCell) := by simpa using ho
  exact ⟨hsr.aw k2 (by simp; omega), Blk.far hrs h.qx _, Blk.set_ hrw 4 fv', own_aw htg k2 (fun j hj e => by
      simp only [List.mem_cons, List.not_mem_nil, or_false] at e
      subst e; exact own_blk_ne htg hrw (by decide) hj), own_aw ht k2 (fun j hj e => by
      simp only [List.mem_cons, List.not_mem_nil, or_false] at e
      subst e; exact own_blk_ne ht hrw (by decide) hj), h.gl, h.ql, h.xl, h.qx, (h.aw.own k (fun i hi => .inr (hm i hi))).setCell (.inr hx) _⟩
/-- What is told in the end: the row's cells are copied to the block of what is told. -/
theorem RLX.out (h : RLX w0 w g q x s a no nm off tv tags fv flds timed time wh) (k : Aw [q] w w') : Sr w' g s a no ∧ w'.ownsRow w0.heap.size 46 4 tv tags.length (tags.flatMap tagCell) ∧ w'.ownsRow w0.heap.size 48 5 fv flds.length (flds.flatMap fieldCell) ∧ Aw [g] w0 w' := by
  have hg := h.gl
  have hq := h.ql
  exact ⟨h.sr.aw k (by simp; omega), own_aw h.tg k (fun j hj e => by
      simp only [List.mem_cons, List.not_mem_nil, or_false] at e
      subst e; exact own_blk_ne h.tg h.rs (by decide) hj), own_aw h.fl k (fun j hj e => by
      simp only [List.mem_cons, List.not_mem_nil, or_false] at e
      subst e; exact own_blk_ne h.fl h.rs (by decide) hj), h.aw.own k (fun i hi => by simp at hi; subst hi; exact .inr hq)⟩
theorem RLX.at1 (h : RLX w0 w g q x s a no nm off tv tags fv flds timed time wh) : RLX w0 (w.setCell ⟨g, 1, none⟩ (.int .i64 ((a : Int) + 1))) g q x s (a + 1) no nm off tv tags fv flds timed time wh :=
  h.scan h.sr.at1 ((Aw.refl _ _).setCell (.inl (by simp)) _)
end
theorem Rw.froz {w : World} {x : Nat} {nm : ByteArray} {off : Nat} {tv fv : Value} {timed : Bool} {time : ByteArray} {wh : Nat} (h : Rw w x nm off tv fv timed time wh) :
    w.frozen? ⟨x, 0, none⟩ = false ∧ w.frozen? ⟨x, 2, none⟩ = false ∧ w.frozen? ⟨x, 5, none⟩ = false ∧ w.frozen? ⟨x, 6, none⟩ = false := ⟨Blk.frozen h 0, Blk.frozen h 2, Blk.frozen h 5, Blk.frozen h 6⟩
/-- A tag under way beside it. -/
structure RTX (w0 w : World) (g q x : Nat) (s : ByteArray) (a : Nat) (no : Bool) (nm : ByteArray) (off : Nat) (tv : Value) (tags : List MTag) (t : Nat) (tn tl : ByteArray) (toff tpos : Nat) : Prop where
  l : RLX w0 w g q x s a no nm off tv tags (.slice none 0 0) [] false ⟨#[]⟩ 0
  tt : Tg w t tn tl toff tpos
  tb : w0.heap.size ≤ t
  tq : t ≠ q
  tx : t ≠ x
  t1 : tv.ownBlock ≠ some t
section
variable {w0 w w' : World} {g q x : Nat} {s : ByteArray} {a a' : Nat} {no no' : Bool} {nm : ByteArray} {off : Nat} {tv tv' : Value} {tags : List MTag} {t : Nat} {tn tl : ByteArray} {toff tpos : Nat}
theorem RTX.new (h : RLX w0 w g q x s a no nm off tv tags (.slice none 0 0) [] false ⟨#[]⟩ 0) (k : Nat) (hq : q < w.heap.size) (hx : x < w.heap.size) : RTX w0 (w.alloc (.cells #[.string ⟨#[]⟩, .string ⟨#[]⟩, .int .i64 (k : Int), .int .i64 0] 46)) g q x s a no nm off tv tags w.heap.size ⟨#[]⟩ ⟨#[]⟩ k 0 :=
  ⟨h.alloc _, Blk.new w _ _, h.aw.size, by omega, by omega, fun e => by have := (h.tg.lt _ e).2; omega⟩
theorem RTX.scan (h : RTX w0 w g q x s a no nm off tv tags t tn tl toff tpos) (hs : Sr w' g s a' no') (k : Aw [g] w w') : RTX w0 w' g q x s a' no' nm off tv tags t tn tl toff tpos :=
  ⟨h.l.scan hs k, Blk.aw h.tt k (by have := h.l.gl; have := h.tb; simp; omega), h.tb, h.tq, h.tx, h.t1⟩
theorem RTX.put {tn' tl' : ByteArray} {toff' tpos' : Nat} (h : RTX w0 w g q x s a no nm off tv tags t tn tl toff tpos) (i : Nat) (u : Value) (hu : Tg (w.setCell ⟨t, i, none⟩ u) t tn' tl' toff' tpos') : RTX w0 (w.setCell ⟨t, i, none⟩ u) g q x s a no nm off tv tags t tn' tl' toff' tpos' :=
  ⟨h.l.put' h.tb h.tq h.tx h.t1 (by simp [Value.ownBlock]) i u, hu, h.tb, h.tq, h.tx, h.t1⟩
theorem RTX.name (h : RTX w0 w g q x s a no nm off tv tags t tn tl toff tpos) (v : ByteArray) : RTX w0 (w.setCell ⟨t, 0, none⟩ (.string v)) g q x s a no nm off tv tags t v tl toff tpos := h.put 0 _ (Blk.set_ h.tt 0 (.string v))
theorem RTX.val (h : RTX w0 w g q x s a no nm off tv tags t tn tl toff tpos) (v : ByteArray) : RTX w0 (w.setCell ⟨t, 1, none⟩ (.string v)) g q x s a no nm off tv tags t tn v toff tpos := h.put 1 _ (Blk.set_ h.tt 1 (.string v))
theorem RTX.pos_ (h : RTX w0 w g q x s a no nm off tv tags t tn tl toff tpos) (k : Nat) : RTX w0 (w.setCell ⟨t, 3, none⟩ (.int .i64 (k : Int))) g q x s a no nm off tv tags t tn tl toff k := h.put 3 _ (Blk.set_ h.tt 3 (.int .i64 (k : Int)))
end
/-- A field under way beside it. -/
structure RFX (w0 w : World) (g q x : Nat) (s : ByteArray) (a : Nat) (no : Bool) (nm : ByteArray) (off : Nat) (tv : Value) (tags : List MTag) (fv : Value) (flds : List MField) (t : Nat) (tn tl : ByteArray) (toff tpos kd : Nat) : Prop where
  l : RLX w0 w g q x s a no nm off tv tags fv flds false ⟨#[]⟩ 0
  ff : Fd w t tn tl toff tpos kd
  tb : w0.heap.size ≤ t
  tq : t ≠ q
  tx : t ≠ x
  t1 : fv.ownBlock ≠ some t
section
variable {w0 w w' : World} {g q x : Nat} {s : ByteArray} {a a' : Nat} {no no' : Bool} {nm : ByteArray} {off : Nat} {tv tv' : Value} {tags : List MTag} {fv : Value} {flds : List MField} {t : Nat} {tn tl : ByteArray} {toff tpos kd : Nat}
theorem RFX.new (h : RLX w0 w g q x s a no nm off tv tags fv flds false ⟨#[]⟩ 0) (Vk V : ByteArray) (O P K : Nat) (hq : q < w.heap.size) (hx : x < w.heap.size) : RFX w0 (w.alloc (.cells #[.string Vk, .string V, .int .i64 (O : Int), .int .i64 (P : Int), .int .i64 (K : Int)] 48)) g q x s a no nm off tv tags fv flds w.heap.size Vk V O P K :=
  ⟨h.alloc _, Blk.new w _ _, h.aw.size, by omega, by omega, fun e => by have := (h.fl.lt _ e).2; omega⟩
theorem RFX.put {tn' tl' : ByteArray} {toff' tpos' kd' : Nat} (h : RFX w0 w g q x s a no nm off tv tags fv flds t tn tl toff tpos kd) (i : Nat) (u : Value) (hu : Fd (w.setCell ⟨t, i, none⟩ u) t tn' tl' toff' tpos' kd') : RFX w0 (w.setCell ⟨t, i, none⟩ u) g q x s a no nm off tv tags fv flds t tn' tl' toff' tpos' kd' :=
  ⟨h.l.put' h.tb h.tq h.tx (fun e => own_blk_ne h.l.tg h.ff (by decide) e) h.t1 i u, hu, h.tb, h.tq, h.tx, h.t1⟩
theorem RFX.name (h : RFX w0 w g q x s a no nm off tv tags fv flds t tn tl toff tpos kd) (v : ByteArray) : RFX w0 (w.setCell ⟨t, 0, none⟩ (.string v)) g q x s a no nm off tv tags fv flds t v tl toff tpos kd := h.put 0 _ (h.ff.setName v)
theorem RFX.off_ (h : RFX w0 w g q x s a no nm off tv tags fv flds t tn tl toff tpos kd) (k : Nat) : RFX w0 (w.setCell ⟨t, 2, none⟩ (.int .i64 (k : Int))) g q x s a no nm off tv tags fv flds t tn tl k tpos kd := h.put 2 _ (h.ff.setOff k)
end
/-- What a line is told as. -/
def LineE (R : MRow) (no : Bool) (base : Nat) (e : Ending) (w : World) : Prop :=
  ∃ x : VRow, e = .returned (.agg #[.int .i64 (x.row.kind : Int), .string x.row.name, .int .i64 (x.row.off : Int), .slice x.tA x.row.tags.length x.tc, .slice x.fA x.row.fields.length x.fc, .string x.row.text, .int .i64 (x.row.pos : Int), .bool x.row.timed, .string x.row.time, .int .i64 (x.row.when_ : Int)]) ∧ OwnV w base x ∧ (no = false → x.row = R)
theorem lineE_mk {R : MRow} {no : Bool} {base : Nat} {w : World} {nm : ByteArray} {off : Nat} {tA : Option Addr} {tags : List MTag} {tc : Nat} {fA : Option Addr} {flds : List MField} {fc : Nat} {timed : Bool} {time : ByteArray} {wh : Nat}
    (ht : w.ownsRow base 46 4 (.slice tA tags.length tc) tags.length (tags.flatMap tagCell)) (hf : w.ownsRow base 48 5 (.slice fA flds.length fc) flds.length (flds.flatMap fieldCell)) (hR : no = false → (⟨0, nm, off, tags, flds, ⟨#[]⟩, 0, timed, time, wh⟩ : MRow) = R) :
    LineE R no base (.returned (.agg #[.int .i64 0, .string nm, .int .i64 (off : Int), .slice tA tags.length tc, .slice fA flds.length fc, .string ⟨#[]⟩, .int .i64 0, .bool timed, .string time, .int .i64 (wh : Int)])) w :=
  ⟨⟨⟨0, nm, off, tags, flds, ⟨#[]⟩, 0, timed, time, wh⟩, tA, tc, fA, fc⟩, rfl, ⟨ht, hf⟩, hR⟩
theorem RLX.fin {w0 w w' : World} {g q x : Nat} {s : ByteArray} {a : Nat} {no : Bool} {nm : ByteArray} {off : Nat} {tA : Option Addr} {tc : Nat} {tags : List MTag} {fA : Option Addr} {fc : Nat} {flds : List MField} {timed : Bool} {time : ByteArray} {wh : Nat} {R : MRow}
    (h : RLX w0 w g q x s a no nm off (.slice tA tags.length tc) tags (.slice fA flds.length fc) flds timed time wh) (k : Aw [q] w w') (hR : no = false → (⟨0, nm, off, tags, flds, ⟨#[]⟩, 0, timed, time, wh⟩ : MRow) = R) :
    LineE R no w0.heap.size (.returned (.agg #[.int .i64 0, .string nm, .int .i64 (off : Int), .slice tA tags.length tc, .slice fA flds.length fc, .string ⟨#[]⟩, .int .i64 0, .bool timed, .string time, .int .i64 (wh : Int)])) w' ∧ Sr w' g s a no ∧ Aw [g] w0 w' := by
  obtain ⟨h1, h2, h3, h4⟩ := h.out k
  exact ⟨lineE_mk h2 h3 hR, h1, h4⟩
theorem Aw.ten {w : World} {q : Nat} {p0 p1 p2 p3 p4 p5 p6 p7 p8 p9 : Addr} {u0 u1 u2 u3 u4 u5 u6 u7 u8 u9 : Value} (h0 : p0.block = q) (h1 : p1.block = q) (h2 : p2.block = q) (h3 : p3.block = q) (h4 : p4.block = q) (h5 : p5.block = q) (h6 : p6.block = q) (h7 : p7.block = q) (h8 : p8.block = q) (h9 : p9.block = q) :
    Aw [q] w ((((((((((w.setCell p0 u0).setCell p1 u1).setCell p2 u2).setCell p3 u3).setCell p4 u4).setCell p5 u5).setCell p6 u6).setCell p7 u7).setCell p8 u8).setCell p9 u9) :=
  ((((((((((Aw.refl _ _).setCell (.inl (by simp [h0])) _).setCell (.inl (by simp [h1])) _).setCell (.inl (by simp [h2])) _).setCell (.inl (by simp [h3])) _).setCell (.inl (by simp [h4])) _).setCell (.inl (by simp [h5])) _).setCell (.inl (by simp [h6])) _).setCell (.inl (by simp [h7])) _).setCell (.inl (by simp [h8])) _).setCell (.inl (by simp [h9])) _
end Go.Proofs.Ytdngieihlcknmaa
