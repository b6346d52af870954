/- The walk of package lineword: a line. -/
import Derived.Test.YtdngieihlcknmaaLineD
import Derived.Deep.AppendLies
import Derived.Deep.RegionHeld3
import Derived.OwnWalk
import Derived.Deep.CutRange
import Derived.Deep.RegionLaw
namespace Go.Proofs.Ytdngieihlcknmaa
set_option linter.unusedVariables false
set_option linter.unusedSimpArgs false
open Go.RowKit
attribute [local go_sem ↓] Go.wp_at_zero Go.wp_at_succ
theorem Try.infoTag : (Try.prog.info? 46).map (fun i => (i.zero, i.size, i.bytes)) = some (some (.agg #[.string ⟨#[]⟩, .string ⟨#[]⟩, .int .i64 0, .int .i64 0]), 4, 48) := by kernel_rfl
theorem Try.infoField : (Try.prog.info? 48).map (fun i => (i.zero, i.size, i.bytes)) = some (some (.agg #[.string ⟨#[]⟩, .string ⟨#[]⟩, .int .i64 0, .int .i64 0, .int .i64 0]), 5, 56) := by kernel_rfl
theorem Try.infoRow : (Try.prog.info? 44).map (fun i => (i.zero, i.size, i.bytes)) = some (some (.agg #[.int .i64 0, .string ⟨#[]⟩, .int .i64 0, .slice none 0 0, .slice none 0 0, .string ⟨#[]⟩, .int .i64 0, .bool false, .string ⟨#[]⟩, .int .i64 0]), 10, 136) := by kernel_rfl
/-- The block of a row under way. -/
def Rw (w : World) (x : Nat) (nm : ByteArray) (off : Nat) (tv fv : Value) (timed : Bool) (time : ByteArray) (wh : Nat) : Prop :=
  Blk w x 44 #[.int .i64 0, .string nm, .int .i64 (off : Int), tv, fv, .string ⟨#[]⟩, .int .i64 0, .bool timed, .string time, .int .i64 (wh : Int)]
theorem Rw.facts {w : World} {x : Nat} {nm : ByteArray} {off : Nat} {tv fv : Value} {timed : Bool} {time : ByteArray} {wh : Nat} (h : Rw w x nm off tv fv timed time wh) :
    (w.cell? ⟨x, 0, none⟩ = some (.int .i64 0) ∧ w.cell? ⟨x, 1, none⟩ = some (.string nm) ∧ w.cell? ⟨x, 2, none⟩ = some (.int .i64 (off : Int)) ∧ w.cell? ⟨x, 3, none⟩ = some tv ∧ w.cell? ⟨x, 4, none⟩ = some fv ∧ w.cell? ⟨x, 5, none⟩ = some (.string ⟨#[]⟩) ∧ w.cell? ⟨x, 6, none⟩ = some (.int .i64 0) ∧ w.cell? ⟨x, 7, none⟩ = some (.bool timed) ∧ w.cell? ⟨x, 8, none⟩ = some (.string time) ∧ w.cell? ⟨x, 9, none⟩ = some (.int .i64 (wh : Int))) ∧
    w.frozen? ⟨x, 1, none⟩ = false ∧ w.frozen? ⟨x, 3, none⟩ = false ∧ w.frozen? ⟨x, 4, none⟩ = false ∧ w.frozen? ⟨x, 7, none⟩ = false ∧ w.frozen? ⟨x, 8, none⟩ = false ∧ w.frozen? ⟨x, 9, none⟩ = false :=
  ⟨⟨(Blk.cell h 0).trans rfl, (Blk.cell h 1).trans rfl, (Blk.cell h 2).trans rfl, (Blk.cell h 3).trans rfl, (Blk.cell h 4).trans rfl, (Blk.cell h 5).trans rfl, (Blk.cell h 6).trans rfl, (Blk.cell h 7).trans rfl, (Blk.cell h 8).trans rfl, (Blk.cell h 9).trans rfl⟩, Blk.frozen h 1, Blk.frozen h 3, Blk.frozen h 4, Blk.frozen h 7, Blk.frozen h 8, Blk.frozen h 9⟩
/-- The reader, the scanner, the row under way, its tags, its fields. -/
structure LX (w0 w : World) (r g b x : Nat) (rv : Value) (s : ByteArray) (a : Nat) (no : Bool) (nm : ByteArray) (off : Nat) (tv : Value) (tags : List MTag) (fv : Value) (flds : List MField) (timed : Bool) (time : ByteArray) (wh : Nat) : Prop where
  lr : LR w0 w r g rv s a no
  bx : Bx w b r
  rw_ : Rw w x nm off tv fv timed time wh
  tg : w.ownsRow w0.heap.size 46 4 tv tags.length (tags.flatMap tagCell)
  fl : w.ownsRow w0.heap.size 48 5 fv flds.length (flds.flatMap fieldCell)
  rl : r < w0.heap.size
  gl : g < w0.heap.size
  bl : w0.heap.size ≤ b
  xl : w0.heap.size ≤ x
  bx_ : b ≠ x
section
variable {w0 w w' : World} {r g b x : Nat} {rv : Value} {s : ByteArray} {a a' : Nat} {no no' : Bool} {nm : ByteArray} {off : Nat} {tv tv' : Value} {tags : List MTag} {fv fv' : Value} {flds : List MField} {timed : Bool} {time : ByteArray} {wh : Nat}
theorem LX.facts (h : LX w0 w r g b x rv s a no nm off tv tags fv flds timed time wh) : w.cell? ⟨b, 0, none⟩ = some (.pointer (some ⟨r, 0, none⟩)) ∧ w.cell? ⟨r, 0, none⟩ = some (.pointer (some ⟨g, 0, none⟩)) := ⟨h.bx.cell, h.lr.rd.facts.1⟩
theorem LX.scan {S : List Nat} (h : LX w0 w r g b x rv s a no nm off tv tags fv flds timed time wh) (k : Aw S w w') (hs : Sc w' g s a' no') (hS : ∀ i, i ∈ S → i = g) : LX w0 w' r g b x rv s a' no' nm off tv tags fv flds timed time wh :=
  ⟨h.lr.scan k hs hS, Blk.aw h.bx k (fun e => by have := hS _ e; have := h.gl; have := h.bl; omega), Blk.aw h.rw_ k (fun e => by have := hS _ e; have := h.gl; have := h.xl; omega),
    own_aw h.tg k (fun i hi e => by have := hS _ e; have := h.gl; have := (h.tg.lt i hi).1; omega), own_aw h.fl k (fun i hi e => by have := hS _ e; have := h.gl; have := (h.fl.lt i hi).1; omega), h.rl, h.gl, h.bl, h.xl, h.bx_⟩
theorem LX.call (h : LX w0 w r g b x rv s a no nm off tv tags fv flds timed time wh) (k : LR w w' r g rv s a' no') : LX w0 w' r g b x rv s a' no' nm off tv tags fv flds timed time wh :=
  h.scan k.aw k.sc (by simp)
theorem LX.drew (h : LX w0 w r g b x rv s a no nm off tv tags fv flds timed time wh) : LX w0 w.drew r g b x rv s a no nm off tv tags fv flds timed time wh := ⟨h.lr.drew, h.bx, h.rw_, h.tg, h.fl, h.rl, h.gl, h.bl, h.xl, h.bx_⟩
/-- A cell of the row under way is written. -/
theorem LX.put {nm' : ByteArray} {timed' : Bool} {time' : ByteArray} {wh' : Nat} (h : LX w0 w r g b x rv s a no nm off tv tags fv flds timed time wh) (i : Nat) (u : Value) (hu : Rw (w.setCell ⟨x, i, none⟩ u) x nm' off tv fv timed' time' wh') : LX w0 (w.setCell ⟨x, i, none⟩ u) r g b x rv s a no nm' off tv tags fv flds timed' time' wh' := by
  have hr := h.rl
  have hg := h.gl
  have hx := h.xl
  have h1 : x ≠ r := by omega
  have h2 : x ≠ g := by omega
  have k : Aw [x] w (w.setCell ⟨x, i, none⟩ u) := (Aw.refl _ _).setCell (.inl (by simp)) u
  exact ⟨h.lr.far u h1 h2 hx, Blk.far h.bx h.bx_ u, hu, own_aw h.tg k (fun j hj e => by
      simp only [List.mem_cons, List.not_mem_nil, or_false] at e
      subst e; exact own_blk_ne h.tg h.rw_ (by decide) hj), own_aw h.fl k (fun j hj e => by
      simp only [List.mem_cons, List.not_mem_nil, or_false] at e
      subst e; exact own_blk_ne h.fl h.rw_ (by decide) hj), h.rl, h.gl, h.bl, h.xl, h.bx_⟩
/-- Two rows of the call's own, of two types. -/
theorem own_own_ne {base base' : Nat} {e e' : TypeId} {size size' n n' : Nat} {v v' : Value} {xs xs' : List Value} (h : w.ownsRow base e size v n xs) (h' : w.ownsRow base' e' size' v' n' xs') (hne : e ≠ e') : ∀ k, v.ownBlock = some k → v'.ownBlock ≠ some k := by
  intro k hk hk'
  rcases h'.2 with ⟨rfl, _⟩ | ⟨g', cap, cur, rfl, _, hh, _⟩
  · simp [Value.ownBlock] at hk'
  · have : g' = k := by simpa [Value.ownBlock] using hk'
    subst this
    exact own_blk_ne h (t := e') (cs := cur) hh hne hk
theorem LX.tags_ (h : LX w0 w r g b x rv s a no nm off tv tags fv flds timed time wh) (k : Aw tv.ownBlock.toList w w') {t : MTag} (ho : w'.ownsRow w0.heap.size 46 4 tv' (tags.length + 1) (tags.flatMap tagCell ++ tagCell t)) : LX w0 (w'.setCell ⟨x, 3, none⟩ tv') r g b x rv s a no nm off tv' (tags ++ [t]) fv flds timed time wh := by
  have hr := h.rl
  have hg := h.gl
  have hx := h.xl
  have h1 : x ≠ r := by omega
  have h2 : x ≠ g := by omega
  have hm : ∀ i, i ∈ tv.ownBlock.toList → w0.heap.size ≤ i := fun i hi => (h.tg.lt i (by simpa using hi)).1
  have hbx := Blk.aw h.bx k (fun e => own_blk_ne h.tg h.bx (by decide) (by simpa using e))
  have hrw := Blk.aw h.rw_ k (fun e => own_blk_ne h.tg h.rw_ (by decide) (by simpa using e))
  have hfl := own_aw h.fl k (fun i hi e => own_own_ne h.fl h.tg (by decide) i hi (by simpa using e))
  have hlr : LR w0 w' r g rv s a no := ⟨Blk.aw h.lr.rd k (fun e => by have := hm _ e; omega), h.lr.sc.aw k (fun e => by have := hm _ e; omega), h.lr.rg, h.lr.aw.own k (fun i hi => .inr (hm i hi))⟩
  have k2 : Aw [x] w' (w'.setCell ⟨x, 3, none⟩ tv') := (Aw.refl _ _).setCell (.inl (by simp)) tv'
  have ht : w'.ownsRow w0.heap.size 46 4 tv' (tags ++ [t]).length ((tags ++ [t]).flatMap tagCell) := by simpa using ho
  exact ⟨hlr.far _ h1 h2 hx, Blk.far hbx h.bx_ _, Blk.set_ hrw 3 tv', own_aw ht k2 (fun j hj e => by
      simp only [List.mem_cons, List.not_mem_nil, or_false] at e
      subst e; exact own_blk_ne ht hrw (by decide) hj), own_aw hfl k2 (fun j hj e => by
      simp only [List.mem_cons, List.not_mem_nil, or_false] at e
      subst e; exact own_blk_ne hfl hrw (by decide) hj), h.rl, h.gl, h.bl, h.xl, h.bx_⟩
theorem LX.flds_ (h : LX w0 w r g b x rv s a no nm off tv tags fv flds timed time wh) (k : Aw fv.ownBlock.toList w w') {t : MField} (ho : w'.ownsRow w0.heap.size 48 5 fv' (flds.length + 1) (flds.flatMap fieldCell ++ fieldCell t)) : LX w0 (w'.setCell ⟨x, 4, none⟩ fv') r g b x rv s a no nm off tv tags fv' (flds ++ [t]) timed time wh := by
  have hr := h.rl
  have hg := h.gl
  have hx := h.xl
  have h1 : x ≠ r := by omega
  have h2 : x ≠ g := by omega
  have hm : ∀ i, i ∈ fv.ownBlock.toList → w0.heap.size ≤ i := fun i hi => (h.fl.lt i (by simpa using hi)).1
  have hbx := Blk.aw h.bx k (fun e => own_blk_ne h.fl h.bx (by decide) (by simpa using e))
  have hrw := Blk.aw h.rw_ k (fun e => own_blk_ne h.fl h.rw_ (by decide) (by simpa using e))
  have htg := own_aw h.tg k (fun i hi e => own_own_ne h.tg h.fl (by decide) i hi (by simpa using e))
  have hlr : LR w0 w' r g rv s a no := ⟨Blk.aw h.lr.rd k (fun e => by have := hm _ e; omega), h.lr.sc.aw k (fun e => by have := hm _ e; omega), h.lr.rg, h.lr.aw.own k (fun i hi => .inr (hm i hi))⟩
  have k2 : Aw [x] w' (w'.setCell ⟨x, 4, none⟩ fv') := (Aw.refl _ _).setCell (.inl (by simp)) fv'
  have ht : w'.ownsRow w0.heap.size 48 5 fv' (flds ++ [t]).length ((flds ++ [t]).flatMap fieldCell) := by simpa using ho
  exact ⟨hlr.far _ h1 h2 hx, Blk.far hbx h.bx_ _, Blk.set_ hrw 4 fv', own_aw htg k2 (fun j hj e => by
      simp only [List.mem_cons, List.not_mem_nil, or_false] at e
      subst e; exact own_blk_ne htg hrw (by decide) hj), own_aw ht k2 (fun j hj e => by
      simp only [List.mem_cons, List.not_mem_nil, or_false] at e
      subst e; exact own_blk_ne ht hrw (by decide) hj), h.rl, h.gl, h.bl, h.xl, h.bx_⟩
end
end Go.Proofs.Ytdngieihlcknmaa
