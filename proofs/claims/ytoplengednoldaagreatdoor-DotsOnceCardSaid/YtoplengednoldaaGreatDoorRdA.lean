/- A reader of rows beside its scanner; a row under way: what stands in memory. -/
import Derived.Test.YtoplengednoldaaGreatDoorScanF
import Derived.Test.YtoplengednoldaaGreatDoorMgPl8
import Derived.Test.YtoplengednoldaaGreatDoorOpen
import Derived.Deep.AppendLies
import Derived.Deep.RegionHeld3
import Derived.OwnWalk
import Derived.Deep.CutRange
import Derived.Deep.CutBlock
import Derived.Deep.RegionLaw
namespace Go.Proofs.YtoplengednoldaaGreatDoor
set_option linter.unusedVariables false
set_option linter.unusedSimpArgs false
open Go.RowKit
/-- The reader's block, a tag's block. -/
def Rd (w : World) (r g : Nat) (rv : Value) : Prop := Blk w r 79 #[.pointer (some ⟨g, 0, none⟩), rv]
def Tg (w : World) (t : Nat) (nm vl : ByteArray) (off pos : Nat) : Prop := Blk w t 86 #[.string nm, .string vl, .int .i64 (off : Int), .int .i64 (pos : Int)]
theorem Rd.facts {w : World} {r g : Nat} {rv : Value} (h : Rd w r g rv) : w.cell? ⟨r, 0, none⟩ = some (.pointer (some ⟨g, 0, none⟩)) ∧ w.cell? ⟨r, 1, none⟩ = some rv ∧ w.frozen? ⟨r, 1, none⟩ = false :=
  ⟨(Blk.cell h 0).trans rfl, (Blk.cell h 1).trans rfl, Blk.frozen h 1⟩
theorem Tg.facts {w : World} {t : Nat} {nm vl : ByteArray} {off pos : Nat} (h : Tg w t nm vl off pos) : (w.cell? ⟨t, 0, none⟩ = some (.string nm) ∧ w.cell? ⟨t, 1, none⟩ = some (.string vl) ∧ w.cell? ⟨t, 2, none⟩ = some (.int .i64 (off : Int)) ∧ w.cell? ⟨t, 3, none⟩ = some (.int .i64 (pos : Int))) ∧
    w.frozen? ⟨t, 0, none⟩ = false ∧ w.frozen? ⟨t, 1, none⟩ = false ∧ w.frozen? ⟨t, 2, none⟩ = false ∧ w.frozen? ⟨t, 3, none⟩ = false :=
  ⟨⟨(Blk.cell h 0).trans rfl, (Blk.cell h 1).trans rfl, (Blk.cell h 2).trans rfl, (Blk.cell h 3).trans rfl⟩, Blk.frozen h 0, Blk.frozen h 1, Blk.frozen h 2, Blk.frozen h 3⟩
/-- The reader and its scanner behind a call's beginning. -/
structure LR (w0 w : World) (r g : Nat) (rv : Value) (s : ByteArray) (a : Nat) (no : Bool) : Prop where
  rd : Rd w r g rv
  sc : Sc w g s a no
  rg : r ≠ g
  aw : Aw [g] w0 w
section
variable {w0 w w' : World} {r g : Nat} {rv : Value} {s : ByteArray} {a a' : Nat} {no no' : Bool}
theorem LR.scan {S : List Nat} (h : LR w0 w r g rv s a no) (k : Aw S w w') (hs : Sc w' g s a' no') (hS : ∀ i, i ∈ S → i = g) : LR w0 w' r g rv s a' no' :=
  ⟨Blk.aw h.rd k (fun e => h.rg (hS _ e)), hs, h.rg, h.aw.trans (k.mono (fun i hi => by rw [hS i hi]; simp))⟩
theorem LR.alloc (h : LR w0 w r g rv s a no) (o : Obj) : LR w0 (w.alloc o) r g rv s a no := ⟨Blk.alloc h.rd o, Blk.alloc h.sc o, h.rg, h.aw.alloc o⟩
theorem LR.far (h : LR w0 w r g rv s a no) {p : Addr} (u : Value) (h1 : p.block ≠ r) (h2 : p.block ≠ g) (h4 : w0.heap.size ≤ p.block) : LR w0 (w.setCell p u) r g rv s a no :=
  ⟨Blk.far h.rd h1.symm u, Blk.far h.sc h2.symm u, h.rg, h.aw.setCell (.inr h4) u⟩
theorem LR.self (h : LR w0 w r g rv s a no) : LR w w r g rv s a no := ⟨h.rd, h.sc, h.rg, Aw.refl _ _⟩
theorem LR.rebase (h : LR w0 w r g rv s a no) (k : LR w w' r g rv s a' no') : LR w0 w' r g rv s a' no' := ⟨k.rd, k.sc, k.rg, h.aw.trans k.aw⟩
theorem LR.drew (h : LR w0 w r g rv s a no) : LR w0 w.drew r g rv s a no := ⟨h.rd, h.sc, h.rg, h.aw.drew⟩
theorem LR.drewN (h : LR w0 w r g rv s a no) (n : Nat) : LR w0 (w.drewN n) r g rv s a no := ⟨h.rd, h.sc, h.rg, h.aw.drewN n⟩
theorem LR.facts (h : LR w0 w r g rv s a no) : w.cell? ⟨r, 0, none⟩ = some (.pointer (some ⟨g, 0, none⟩)) := h.rd.facts.1
end
/-- The reader, its scanner, a tag of the call's own, the block of the result. -/
structure LU (w0 w : World) (r g : Nat) (rv : Value) (s : ByteArray) (a : Nat) (no : Bool) (t : Nat) (tn tv : ByteArray) (toff tpos : Nat) (u : Nat) : Prop where
  lr : LR w0 w r g rv s a no
  tg : Tg w t tn tv toff tpos
  tu : Tg w u ⟨#[]⟩ ⟨#[]⟩ 0 0
  tr : t ≠ r ∧ t ≠ g ∧ t ≠ u ∧ w0.heap.size ≤ t
  ur : u ≠ r ∧ u ≠ g ∧ w0.heap.size ≤ u
section
variable {w0 w w' : World} {r g : Nat} {rv : Value} {s : ByteArray} {a a' : Nat} {no no' : Bool} {t u : Nat} {tn tv : ByteArray} {toff tpos : Nat}
theorem LU.scan {S : List Nat} (h : LU w0 w r g rv s a no t tn tv toff tpos u) (k : Aw S w w') (hs : Sc w' g s a' no') (hS : ∀ i, i ∈ S → i = g) : LU w0 w' r g rv s a' no' t tn tv toff tpos u :=
  ⟨h.lr.scan k hs hS, Blk.aw h.tg k (fun e => h.tr.2.1 (hS _ e)), Blk.aw h.tu k (fun e => h.ur.2.1 (hS _ e)), h.tr, h.ur⟩
theorem LU.name (h : LU w0 w r g rv s a no t tn tv toff tpos u) (v : ByteArray) : LU w0 (w.setCell ⟨t, 0, none⟩ (.string v)) r g rv s a no t v tv toff tpos u :=
  ⟨h.lr.far _ h.tr.1 h.tr.2.1 h.tr.2.2.2, Blk.set_ h.tg 0 (.string v), Blk.far h.tu h.tr.2.2.1.symm _, h.tr, h.ur⟩
theorem LU.val (h : LU w0 w r g rv s a no t tn tv toff tpos u) (v : ByteArray) : LU w0 (w.setCell ⟨t, 1, none⟩ (.string v)) r g rv s a no t tn v toff tpos u :=
  ⟨h.lr.far _ h.tr.1 h.tr.2.1 h.tr.2.2.2, Blk.set_ h.tg 1 (.string v), Blk.far h.tu h.tr.2.2.1.symm _, h.tr, h.ur⟩
theorem LU.pos_ (h : LU w0 w r g rv s a no t tn tv toff tpos u) (k : Nat) : LU w0 (w.setCell ⟨t, 3, none⟩ (.int .i64 (k : Int))) r g rv s a no t tn tv toff k u :=
  ⟨h.lr.far _ h.tr.1 h.tr.2.1 h.tr.2.2.2, Blk.set_ h.tg 3 (.int .i64 (k : Int)), Blk.far h.tu h.tr.2.2.1.symm _, h.tr, h.ur⟩
theorem LU.out (h : LU w0 w r g rv s a no t tn tv toff tpos u) : LR w0 ((((w.setCell ⟨u, 0, none⟩ (.string tn)).setCell ⟨u, 1, none⟩ (.string tv)).setCell ⟨u, 2, none⟩ (.int .i64 (toff : Int))).setCell ⟨u, 3, none⟩ (.int .i64 (tpos : Int))) r g rv s a no :=
  (((h.lr.far _ h.ur.1 h.ur.2.1 h.ur.2.2).far _ h.ur.1 h.ur.2.1 h.ur.2.2).far _ h.ur.1 h.ur.2.1 h.ur.2.2).far _ h.ur.1 h.ur.2.1 h.ur.2.2
end
theorem Tryz.infoTag : (Tryz.prog.info? 86).map (fun i => (i.zero, i.size, i.bytes)) = some (some (.agg #[.string ⟨#[]⟩, .string ⟨#[]⟩, .int .i64 0, .int .i64 0]), 4, 48) := by kernel_rfl
theorem Tryz.infoField : (Tryz.prog.info? 88).map (fun i => (i.zero, i.size, i.bytes)) = some (some (.agg #[.string ⟨#[]⟩, .string ⟨#[]⟩, .int .i64 0, .int .i64 0, .int .i64 0]), 5, 56) := by kernel_rfl
theorem Tryz.infoRow : (Tryz.prog.info? 74).map (fun i => (i.zero, i.size, i.bytes)) = some (some (.agg #[.int .i64 0, .string ⟨#[]⟩, .int .i64 0, .slice none 0 0, .slice none 0 0, .string ⟨#[]⟩, .int .i64 0, .bool false, .string ⟨#[]⟩, .int .i64 0]), 10, 136) := by kernel_rfl
/-- Two rows of the call's own, of two types. -/
theorem own_own_ne {w : World} {base base' : Nat} {e e' : TypeId} {size size' n n' : Nat} {v v' : Value} {xs xs' : List Value} (h : w.ownsRow base e size v n xs) (h' : w.ownsRow base' e' size' v' n' xs') (hne : e ≠ e') : ∀ k, v.ownBlock = some k → v'.ownBlock ≠ some k := by
  intro k hk hk'
  rcases h'.2 with ⟨rfl, _⟩ | ⟨g', cap, cur, rfl, _, hh, _⟩
  · simp [Value.ownBlock] at hk'
  · have : g' = k := by simpa [Value.ownBlock] using hk'
    subst this
    exact own_blk_ne h (t := e') (cs := cur) hh hne hk
/-- The block of a row under way. -/
def Rw (w : World) (x : Nat) (K : Nat) (nm : ByteArray) (off : Nat) (tv : Value) (text : ByteArray) (pos : Nat) (timed : Bool) (time : ByteArray) (wh : Nat) : Prop :=
  Blk w x 74 #[.int .i64 (K : Int), .string nm, .int .i64 (off : Int), tv, .slice none 0 0, .string text, .int .i64 (pos : Int), .bool timed, .string time, .int .i64 (wh : Int)]
theorem Rw.facts {w : World} {x K : Nat} {nm : ByteArray} {off : Nat} {tv : Value} {text : ByteArray} {pos : Nat} {timed : Bool} {time : ByteArray} {wh : Nat} (h : Rw w x K nm off tv text pos timed time wh) :
    (w.cell? ⟨x, 0, none⟩ = some (.int .i64 (K : Int)) ∧ w.cell? ⟨x, 1, none⟩ = some (.string nm) ∧ w.cell? ⟨x, 2, none⟩ = some (.int .i64 (off : Int)) ∧ w.cell? ⟨x, 3, none⟩ = some tv ∧ w.cell? ⟨x, 4, none⟩ = some (.slice none 0 0) ∧ w.cell? ⟨x, 5, none⟩ = some (.string text) ∧ w.cell? ⟨x, 6, none⟩ = some (.int .i64 (pos : Int)) ∧ w.cell? ⟨x, 7, none⟩ = some (.bool timed) ∧ w.cell? ⟨x, 8, none⟩ = some (.string time) ∧ w.cell? ⟨x, 9, none⟩ = some (.int .i64 (wh : Int))) ∧
    w.frozen? ⟨x, 0, none⟩ = false ∧ w.frozen? ⟨x, 1, none⟩ = false ∧ w.frozen? ⟨x, 2, none⟩ = false ∧ w.frozen? ⟨x, 3, none⟩ = false ∧ w.frozen? ⟨x, 4, none⟩ = false ∧ w.frozen? ⟨x, 5, none⟩ = false ∧ w.frozen? ⟨x, 6, none⟩ = false ∧ w.frozen? ⟨x, 7, none⟩ = false ∧ w.frozen? ⟨x, 8, none⟩ = false ∧ w.frozen? ⟨x, 9, none⟩ = false :=
  ⟨⟨(Blk.cell h 0).trans rfl, (Blk.cell h 1).trans rfl, (Blk.cell h 2).trans rfl, (Blk.cell h 3).trans rfl, (Blk.cell h 4).trans rfl, (Blk.cell h 5).trans rfl, (Blk.cell h 6).trans rfl, (Blk.cell h 7).trans rfl, (Blk.cell h 8).trans rfl, (Blk.cell h 9).trans rfl⟩, Blk.frozen h 0, Blk.frozen h 1, Blk.frozen h 2, Blk.frozen h 3, Blk.frozen h 4, Blk.frozen h 5, Blk.frozen h 6, Blk.frozen h 7, Blk.frozen h 8, Blk.frozen h 9⟩
/-- The reader, the scanner, the row under way, its tags. -/
structure LX (w0 w : World) (r g x : Nat) (rv : Value) (s : ByteArray) (a : Nat) (no : Bool) (K : Nat) (nm : ByteArray) (off : Nat) (tv : Value) (tags : List MTag) (text : ByteArray) (pos : Nat) (timed : Bool) (time : ByteArray) (wh : Nat) : Prop where
  lr : LR w0 w r g rv s a no
  rw_ : Rw w x K nm off tv text pos timed time wh
  tg : w.ownsRow w0.heap.size 86 4 tv tags.length (tags.flatMap tagCell)
  rl : r < w0.heap.size
  gl : g < w0.heap.size
  xl : w0.heap.size ≤ x
section
variable {w0 w w' : World} {r g x K : Nat} {rv : Value} {s : ByteArray} {a a' : Nat} {no no' : Bool} {nm : ByteArray} {off : Nat} {tv tv' : Value} {tags : List MTag} {text : ByteArray} {pos : Nat} {timed : Bool} {time : ByteArray} {wh : Nat}
theorem LX.facts (h : LX w0 w r g x rv s a no K nm off tv tags text pos timed time wh) : w.cell? ⟨r, 0, none⟩ = some (.pointer (some ⟨g, 0, none⟩)) := h.lr.rd.facts.1
theorem LX.scan {S : List Nat} (h : LX w0 w r g x rv s a no K nm off tv tags text pos timed time wh) (k : Aw S w w') (hs : Sc w' g s a' no') (hS : ∀ i, i ∈ S → i = g) : LX w0 w' r g x rv s a' no' K nm off tv tags text pos timed time wh :=
  ⟨h.lr.scan k hs hS, Blk.aw h.rw_ k (fun e => by have := hS _ e; have := h.gl; have := h.xl; omega),
    own_aw h.tg k (fun i hi e => by have := hS _ e; have := h.gl; have := (h.tg.lt i hi).1; omega), h.rl, h.gl, h.xl⟩
theorem LX.call (h : LX w0 w r g x rv s a no K nm off tv tags text pos timed time wh) (k : LR w w' r g rv s a' no') : LX w0 w' r g x rv s a' no' K nm off tv tags text pos timed time wh :=
  h.scan k.aw k.sc (by simp)
theorem LX.drew (h : LX w0 w r g x rv s a no K nm off tv tags text pos timed time wh) : LX w0 w.drew r g x rv s a no K nm off tv tags text pos timed time wh := ⟨h.lr.drew, h.rw_, h.tg, h.rl, h.gl, h.xl⟩
theorem LX.alloc (h : LX w0 w r g x rv s a no K nm off tv tags text pos timed time wh) (o : Obj) : LX w0 (w.alloc o) r g x rv s a no K nm off tv tags text pos timed time wh :=
  ⟨h.lr.alloc o, Blk.alloc h.rw_ o, own_aw (S := []) h.tg ((Aw.refl _ _).alloc o) (fun i hi e => by simp at e), h.rl, h.gl, h.xl⟩
/-- A cell of the row under way is written. -/
theorem LX.put {K' : Nat} {nm' : ByteArray} {off' : Nat} {text' : ByteArray} {pos' : Nat} {timed' : Bool} {time' : ByteArray} {wh' : Nat} (h : LX w0 w r g x rv s a no K nm off tv tags text pos timed time wh) (i : Nat) (u : Value) (hu : Rw (w.setCell ⟨x, i, none⟩ u) x K' nm' off' tv text' pos' timed' time' wh') : LX w0 (w.setCell ⟨x, i, none⟩ u) r g x rv s a no K' nm' off' tv tags text' pos' timed' time' wh' := by
  have hr := h.rl
  have hg := h.gl
  have hx := h.xl
  have h1 : x ≠ r := by omega
  have h2 : x ≠ g := by omega
  have k : Aw [x] w (w.setCell ⟨x, i, none⟩ u) := (Aw.refl _ _).setCell (.inl (by simp)) u
  exact ⟨h.lr.far u h1 h2 hx, hu, own_aw h.tg k (fun j hj e => by
      simp only [List.mem_cons, List.not_mem_nil, or_false] at e
      subst e; exact own_blk_ne h.tg h.rw_ (by decide) hj), h.rl, h.gl, h.xl⟩
theorem LX.name (h : LX w0 w r g x rv s a no K nm off tv tags text pos timed time wh) (v : ByteArray) : LX w0 (w.setCell ⟨x, 1, none⟩ (.string v)) r g x rv s a no K v off tv tags text pos timed time wh := h.put 1 _ (Blk.set_ h.rw_ 1 (.string v))
theorem LX.text_ (h : LX w0 w r g x rv s a no K nm off tv tags text pos timed time wh) (v : ByteArray) : LX w0 (w.setCell ⟨x, 5, none⟩ (.string v)) r g x rv s a no K nm off tv tags v pos timed time wh := h.put 5 _ (Blk.set_ h.rw_ 5 (.string v))
theorem LX.pos_ (h : LX w0 w r g x rv s a no K nm off tv tags text pos timed time wh) (v : Nat) : LX w0 (w.setCell ⟨x, 6, none⟩ (.int .i64 (v : Int))) r g x rv s a no K nm off tv tags text v timed time wh := h.put 6 _ (Blk.set_ h.rw_ 6 (.int .i64 (v : Int)))
theorem LX.timed_ (h : LX w0 w r g x rv s a no K nm off tv tags text pos timed time wh) (v : Bool) : LX w0 (w.setCell ⟨x, 7, none⟩ (.bool v)) r g x rv s a no K nm off tv tags text pos v time wh := h.put 7 _ (Blk.set_ h.rw_ 7 (.bool v))
theorem LX.time_ (h : LX w0 w r g x rv s a no K nm off tv tags text pos timed time wh) (v : ByteArray) : LX w0 (w.setCell ⟨x, 8, none⟩ (.string v)) r g x rv s a no K nm off tv tags text pos timed v wh := h.put 8 _ (Blk.set_ h.rw_ 8 (.string v))
theorem LX.when_ (h : LX w0 w r g x rv s a no K nm off tv tags text pos timed time wh) (v : Nat) : LX w0 (w.setCell ⟨x, 9, none⟩ (.int .i64 (v : Int))) r g x rv s a no K nm off tv tags text pos timed time v := h.put 9 _ (Blk.set_ h.rw_ 9 (.int .i64 (v : Int)))
theorem LX.kind_ (h : LX w0 w r g x rv s a no K nm off tv tags text pos timed time wh) (v : Nat) {u : Value} (hu : u = .int .i64 (v : Int)) : LX w0 (w.setCell ⟨x, 0, none⟩ u) r g x rv s a no v nm off tv tags text pos timed time wh := by
  rw [hu]; exact h.put 0 _ (Blk.set_ h.rw_ 0 (.int .i64 (v : Int)))
/-- One more tag is put to those of the row. -/
theorem LX.tags_ (h : LX w0 w r g x rv s a no K nm off tv tags text pos timed time wh) (k : Aw tv.ownBlock.toList w w') {t : MTag} (ho : w'.ownsRow w0.heap.size 86 4 tv' (tags.length + 1) (tags.flatMap tagCell ++ tagCell t)) : LX w0 (w'.setCell ⟨x, 3, none⟩ tv') r g x rv s a no K nm off tv' (tags ++ [t]) text pos timed time wh := by
  have hr := h.rl
  have hg := h.gl
  have hx := h.xl
  have h1 : x ≠ r := by omega
  have h2 : x ≠ g := by omega
  have hm : ∀ i, i ∈ tv.ownBlock.toList → w0.heap.size ≤ i := fun i hi => (h.tg.lt i (by simpa using hi)).1
  have hrw := Blk.aw h.rw_ k (fun e => own_blk_ne h.tg h.rw_ (by decide) (by simpa using e))
  have hlr : LR w0 w' r g rv s a no := ⟨Blk.aw h.lr.rd k (fun e => by have := hm _ e; omega), h.lr.sc.aw k (fun e => by have := hm _ e; omega), h.lr.rg, h.lr.aw.own k (fun i hi => .inr (hm i hi))⟩
  have k2 : Aw [x] w' (w'.setCell ⟨x, 3, none⟩ tv') := (Aw.refl _ _).setCell (.inl (by simp)) tv'
  have ht : w'.ownsRow w0.heap.size 86 4 tv' (tags ++ [t]).length ((tags ++ [t]).flatMap tagCell) := by simpa using ho
  exact ⟨hlr.far _ h1 h2 hx, Blk.set_ hrw 3 tv', own_aw ht k2 (fun j hj e => by
      simp only [List.mem_cons, List.not_mem_nil, or_false] at e
      subst e; exact own_blk_ne ht hrw (by decide) hj), h.rl, h.gl, h.xl⟩
/-- All tags at once. -/
theorem LX.tagsAll {tags' : List MTag} (h : LX w0 w r g x rv s a no K nm off tv tags text pos timed time wh) (ho : w.ownsRow w0.heap.size 86 4 tv' tags'.length (tags'.flatMap tagCell)) : LX w0 (w.setCell ⟨x, 3, none⟩ tv') r g x rv s a no K nm off tv' tags' text pos timed time wh := by
  have hr := h.rl
  have hg := h.gl
  have hx := h.xl
  have h1 : x ≠ r := by omega
  have h2 : x ≠ g := by omega
  have k2 : Aw [x] w (w.setCell ⟨x, 3, none⟩ tv') := (Aw.refl _ _).setCell (.inl (by simp)) tv'
  exact ⟨h.lr.far _ h1 h2 hx, Blk.set_ h.rw_ 3 tv', own_aw ho k2 (fun j hj e => by
      simp only [List.mem_cons, List.not_mem_nil, or_false] at e
      subst e; exact own_blk_ne ho h.rw_ (by decide) hj), h.rl, h.gl, h.xl⟩
end
theorem own_more {w : World} {base base' : Nat} {e : TypeId} {size n : Nat} {v : Value} {xs : List Value} (h : w.ownsRow base e size v n xs) (hb : base' ≤ base) : w.ownsRow base' e size v n xs := by
  obtain ⟨hl, h | ⟨g, cap, cur, hv, hg, r⟩⟩ := h
  · exact ⟨hl, .inl h⟩
  · exact ⟨hl, .inr ⟨g, cap, cur, hv, by omega, r⟩⟩
/-- A row whose tags are the call's own, without fields. -/
def OwnV (w : World) (base : Nat) (x : VRow) : Prop :=
  w.ownsRow base 86 4 (.slice x.tA x.row.tags.length x.tc) x.row.tags.length (x.row.tags.flatMap tagCell) ∧ w.ownsRow base 88 5 (.slice x.fA x.row.fields.length x.fc) x.row.fields.length (x.row.fields.flatMap fieldCell)
theorem own_form {w : World} {base : Nat} {e : TypeId} {size n : Nat} {v : Value} {xs : List Value} (h : w.ownsRow base e size v n xs) : ∃ A c, v = .slice A n c := by
  obtain ⟨hl, ⟨rfl, rfl⟩ | ⟨g, cap, cur, rfl, r⟩⟩ := h
  · exact ⟨_, _, rfl⟩
  · exact ⟨_, _, rfl⟩
/-- The row under way, put to the reader's rows. -/
def rowOf (K : Nat) (nm : ByteArray) (off : Nat) (tA : Option Addr) (tags : List MTag) (tc : Nat) (text : ByteArray) (pos : Nat) (timed : Bool) (time : ByteArray) (wh : Nat) : VRow := ⟨⟨K, nm, off, tags, [], text, pos, timed, time, wh⟩, tA, tc, none, 0⟩
theorem line_end {w w5 w8 : World} {r g x K : Nat} {rv rv' : Value} {s : ByteArray} {a : Nat} {no : Bool} {nm : ByteArray} {off : Nat} {tA : Option Addr} {tags : List MTag} {tc : Nat} {text : ByteArray} {pos : Nat} {timed : Bool} {time : ByteArray} {wh base n : Nat} {xs : List Value}
    (L : LX w w5 r g x rv s a no K nm off (.slice tA tags.length tc) tags text pos timed time wh) (hown : w5.ownsRow base 74 10 rv n xs) (hb : base ≤ w.heap.size) (hA : Aw rv.ownBlock.toList w5 w8) (ho : w8.ownsRow base 74 10 rv' (n + 1) (xs ++ rowCell (rowOf K nm off tA tags tc text pos timed time wh))) :
    Rd (w8.setCell ⟨r, 1, none⟩ rv') r g rv' ∧ Sc (w8.setCell ⟨r, 1, none⟩ rv') g s a no ∧ (w8.setCell ⟨r, 1, none⟩ rv').ownsRow base 74 10 rv' (n + 1) (xs ++ rowCell (rowOf K nm off tA tags tc text pos timed time wh)) ∧ OwnV (w8.setCell ⟨r, 1, none⟩ rv') base (rowOf K nm off tA tags tc text pos timed time wh) ∧ Aw (g :: r :: rv.ownBlock.toList) w (w8.setCell ⟨r, 1, none⟩ rv') := by
  have hrd := Blk.aw L.lr.rd hA (fun e => own_blk_ne hown L.lr.rd (by decide) (by simpa using e))
  have hsc := Blk.aw L.lr.sc hA (fun e => own_blk_ne hown L.lr.sc (by decide) (by simpa using e))
  have htg := own_aw L.tg hA (fun i hi e => own_own_ne L.tg hown (by decide) i hi (by simpa using e))
  have k2 : Aw [r] w8 (w8.setCell ⟨r, 1, none⟩ rv') := (Aw.refl _ _).setCell (.inl (by simp)) rv'
  refine ⟨Blk.set_ hrd 1 rv', Blk.far hsc L.lr.rg.symm _, own_aw ho k2 (fun i hi e => ?_), ⟨own_more (own_aw htg k2 (fun i hi e => ?_)) hb, World.ownsRow_nil _ _ _ _⟩, ?_⟩
  · simp only [List.mem_cons, List.not_mem_nil, or_false] at e
    subst e; exact own_blk_ne ho hrd (by decide) hi
  · simp only [List.mem_cons, List.not_mem_nil, or_false] at e
    subst e; exact own_blk_ne htg hrd (by decide) hi
  · refine ((L.lr.aw.mono (by simp)).trans (hA.mono (fun k hk => by simp [List.mem_cons]; exact .inr (.inr (by simpa using hk))))).trans (k2.mono (by simp))
end Go.Proofs.YtoplengednoldaaGreatDoor
