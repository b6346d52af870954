/- All blocks but some are as they were; the scanner's block. -/
import Derived.Test.YtcapbikelgcmmaaGreatDoorCore
import Derived.Test.YtcapbikelgcmmaaGreatDoorMem
namespace Go.Proofs.YtcapbikelgcmmaaGreatDoor
set_option linter.unusedVariables false
set_option linter.unusedSimpArgs false
open Go.RowKit
structure Aw (S : List Nat) (w w' : World) : Prop where
  os : w'.os = w.os
  tape : w'.tape = w.tape
  output : w'.output = w.output
  size : w.heap.size ≤ w'.heap.size
  block : ∀ k, k < w.heap.size → k ∉ S → w'.heap[k]? = w.heap[k]?
section
variable {S : List Nat} {a b c w w' : World}
theorem Aw.refl (S : List Nat) (w : World) : Aw S w w := ⟨rfl, rfl, rfl, Nat.le_refl _, fun _ _ _ => rfl⟩
theorem Aw.trans (h : Aw S a b) (k : Aw S b c) : Aw S a c :=
  ⟨k.os.trans h.os, k.tape.trans h.tape, k.output.trans h.output, Nat.le_trans h.size k.size, fun i hi hn => (k.block i (Nat.lt_of_lt_of_le hi h.size) hn).trans (h.block i hi hn)⟩
theorem Aw.mono {S' : List Nat} (h : Aw S a b) (hs : ∀ k, k ∈ S → k ∈ S') : Aw S' a b := ⟨h.os, h.tape, h.output, h.size, fun k hk hn => h.block k hk (fun e => hn (hs k e))⟩
theorem Aw.drew (h : Aw S a b) : Aw S a b.drew := ⟨h.os, h.tape, h.output, h.size, h.block⟩
theorem Aw.drewN (h : Aw S a b) (n : Nat) : Aw S a (b.drewN n) := h.trans (by
  have := below_drewN (Below.refl b.heap.size b) n
  exact ⟨this.os, this.tape, this.output, this.size, fun k hk _ => this.block k hk⟩)
/-- Behind a callee of a mark of its own. -/
theorem Aw.below {B : Nat} (h : Aw S a b) (k : Below B b c) (hB : a.heap.size ≤ B) : Aw S a c :=
  ⟨k.os.trans h.os, k.tape.trans h.tape, k.output.trans h.output, Nat.le_trans h.size k.size, fun i hi hn => (k.block i (by omega)).trans (h.block i hi hn)⟩
theorem Aw.bel (h : Aw S a b) (k : Below b.heap.size b c) : Aw S a c := h.below k h.size
theorem Aw.ofBelow (k : Below a.heap.size a b) : Aw S a b := (Aw.refl S a).bel k
theorem Aw.alloc (h : Aw S a b) (o : Obj) : Aw S a (b.alloc o) := h.bel ((Below.refl _ _).alloc (Nat.le_refl _) o)
theorem Aw.setCell (h : Aw S a b) {p : Addr} (hp : p.block ∈ S ∨ a.heap.size ≤ p.block) (u : Value) : Aw S a (b.setCell p u) :=
  ⟨h.os, h.tape, h.output, by simpa [World.setCell] using h.size, fun i hi hn => (Below.heap_setCell b p u i (fun e => by
    rcases hp with hp | hp
    · exact hn (e ▸ hp)
    · omega)).trans (h.block i hi hn)⟩
theorem Aw.grown {row : Option Nat} (h : Aw S a b) (hg : b.grownBy c row) (hr : ∀ k, row = some k → k ∈ S ∨ a.heap.size ≤ k) : Aw S a c :=
  ⟨hg.os.trans h.os, hg.tape.trans h.tape, hg.output.trans h.output, Nat.le_trans h.size hg.size, fun i hi hn => (hg.block i (Nat.lt_of_lt_of_le hi h.size) (fun e => by
    rcases hr i e.symm with h1 | h1
    · exact hn h1
    · omega)).trans (h.block i hi hn)⟩
/-- Below a mark that all of the blocks lie above. -/
theorem Aw.bel_of {B : Nat} (h : Aw S a b) (hS : ∀ k, k ∈ S → B ≤ k) (hB : B ≤ a.heap.size) : Below B a b :=
  ⟨h.os, h.tape, h.output, h.size, fun k hk => h.block k (by omega) (fun e => by have := hS k e; omega)⟩
theorem Aw.none_bel (h : Aw [] a b) : Below a.heap.size a b := h.bel_of (fun k hk => by simp at hk) (Nat.le_refl _)
/-- Behind a callee that turned blocks of the call's own alone. -/
theorem Aw.own {S' : List Nat} (h : Aw S a b) (k : Aw S' b c) (hS : ∀ k, k ∈ S' → k ∈ S ∨ a.heap.size ≤ k) : Aw S a c :=
  ⟨k.os.trans h.os, k.tape.trans h.tape, k.output.trans h.output, Nat.le_trans h.size k.size, fun i hi hn => (k.block i (Nat.lt_of_lt_of_le hi h.size) (fun e => by
    rcases hS i e with h1 | h1
    · exact hn h1
    · omega)).trans (h.block i hi hn)⟩
theorem Blk.aw {g : Nat} {t : TypeId} {cs : Array Value} (h : Blk w g t cs) (k : Aw S w w') (hg : g ∉ S) : Blk w' g t cs := (k.block g h.lt hg).trans h
theorem own_aw {base : Nat} {e : TypeId} {size n : Nat} {v : Value} {xs : List Value} (h : w.ownsRow base e size v n xs) (k : Aw S w w') (hv : ∀ g, v.ownBlock = some g → g ∉ S) : w'.ownsRow base e size v n xs := by
  obtain ⟨hl, h | ⟨g, cap, cur, rfl, hg, hh, r⟩⟩ := h
  · exact ⟨hl, .inl h⟩
  · refine ⟨hl, .inr ⟨g, cap, cur, rfl, hg, ?_, r⟩⟩
    have hlt : g < w.heap.size := by
      rcases Nat.lt_or_ge g w.heap.size with h' | h'
      · exact h'
      · rw [Array.getElem?_eq_none (by omega)] at hh; cases hh
    exact (k.block g hlt (hv g rfl)).trans hh
theorem bldAt_aw {T e : TypeId} {B d : Nat} {p : Value} {bs : List Value} (h : Lib.BuilderAt T e B d p bs w) (k : Aw S w w') (hS : ∀ i, i ∈ S → i < B) : Lib.BuilderAt T e B d p bs w' := by
  obtain ⟨hB, v, hv, hown, hne⟩ := h
  have hlt : d < w.heap.size := Lib.BuilderAt.lt ⟨hB, v, hv, hown, hne⟩
  refine ⟨hB, v, (k.block d hlt (fun e => by have := hS d e; omega)).trans hv, own_aw hown k (fun g hg e => ?_), hne⟩
  have h1 := hS g e
  have h2 := (hown.lt g hg).1
  omega
theorem bld_aw {T e : TypeId} {B d : Nat} {bs : List Value} (h : Lib.IsBuilder T e B d bs w) (k : Aw S w w') (hS : ∀ i, i ∈ S → i < B) : Lib.IsBuilder T e B d bs w' :=
  h.imp (bldAt_aw · k hS) (bldAt_aw · k hS)
theorem IsRows.aw {α : Type} {f : α → List Value} {size B n : Nat} {A : Option Addr} {xs : List α} (h : IsRows f size w B A n xs) (k : Aw S w w') (hB : B ≤ w.heap.size) (hS : ∀ i, i ∈ S → B ≤ i) : IsRows f size w' B A n xs :=
  h.keep fun b o hb => World.cell?_of_block (k.block b (by omega) (fun e => by have := hS b e; omega))
end
theorem num_succ (a : Nat) : Value.int .i64 ((a : Int) + 1) = Value.int .i64 ((a + 1 : Nat) : Int) := rfl
end Go.Proofs.YtcapbikelgcmmaaGreatDoor
