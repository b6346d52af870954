/- Families of the call's own: what stands in memory, and how it grows. -/
import Derived.Test.YtoplengednoldaaGreatDoorFamDef
import Derived.Test.YtoplengednoldaaGreatDoorRdA
import Derived.Test.YtoplengednoldaaGreatDoorAppAny
import Derived.Test.YtoplengednoldaaGreatDoorLabB
namespace Go.Proofs.YtoplengednoldaaGreatDoor
set_option linter.unusedVariables false
set_option linter.unusedSimpArgs false
open Go.RowKit
theorem Tryz.infoPnt : (Tryz.prog.info? 70).map (fun i => (i.zero, i.size, i.bytes)) = some (some (.agg #[.slice none 0 0, .int .i64 0, .bool false, .int .i64 0, .int .i64 0, .int .i64 0, .int .i64 0, .bool false, .int .i64 0]), 9, 88) := by kernel_rfl
theorem Tryz.infoFam : (Tryz.prog.info? 66).map (fun i => (i.zero, i.size, i.bytes)) = some (some (.agg #[.string ⟨#[]⟩, .int .i64 0, .string ⟨#[]⟩, .string ⟨#[]⟩, .slice none 0 0]), 5, 80) := by kernel_rfl
def VFam.pv (x : VFam) : Value := .slice x.A x.pts.length x.c
def VPnt.lv (x : VPnt) : Value := .slice x.A x.pt.labels.length x.c
structure FamsAt (w : World) (base : Nat) (fv : Value) (l : List VFam) : Prop where
  own : w.ownsRow base 66 5 fv l.length (l.flatMap famCell)
  pts : ∀ f ∈ l, w.ownsRow base 70 9 f.pv f.pts.length (f.pts.flatMap pntCell)
  dis : l.Pairwise fun f g => ∀ b, f.pv.ownBlock = some b → g.pv.ownBlock ≠ some b
  lab : ∀ f ∈ l, ∀ x ∈ f.pts, w.ownsRow base 118 2 x.lv x.pt.labels.length (x.pt.labels.flatMap labCell)
theorem FamsAt.nil_ {w : World} {base : Nat} : FamsAt w base (.slice none 0 0) [] := ⟨World.ownsRow_nil _ _ _ _, by simp, List.Pairwise.nil, by simp⟩
section
variable {w w' : World} {base : Nat} {fv : Value} {l : List VFam}
theorem FamsAt.bel (h : FamsAt w base fv l) (k : Below w.heap.size w w') : FamsAt w' base fv l :=
  ⟨own_bel h.own k, fun f hf => own_bel (h.pts f hf) k, h.dis, fun f hf x hx => own_bel (h.lab f hf x hx) k⟩
theorem FamsAt.alloc (h : FamsAt w base fv l) (o : Obj) : FamsAt (w.alloc o) base fv l := h.bel ((Below.refl _ _).alloc (Nat.le_refl _) o)
theorem FamsAt.drew (h : FamsAt w base fv l) : FamsAt w.drew base fv l := h.bel (Below.refl _ _).drew
theorem FamsAt.drewN (h : FamsAt w base fv l) (n : Nat) : FamsAt (w.drewN n) base fv l := h.bel (below_drewN (Below.refl _ _) n)
/-- Blocks of other types may turn. -/
theorem FamsAt.aw {S : List Nat} (h : FamsAt w base fv l) (k : Aw S w w') (hS : ∀ i, i ∈ S → w.heap.size ≤ i ∨ ∃ t cs, Blk w i t cs ∧ 66 ≠ t ∧ 70 ≠ t ∧ 118 ≠ t) : FamsAt w' base fv l := by
  have q : ∀ {e : TypeId} {size n : Nat} {v : Value} {xs : List Value}, w.ownsRow base e size v n xs → (∀ i t cs, i ∈ S → Blk w i t cs → (66 ≠ t ∧ 70 ≠ t ∧ 118 ≠ t) → e ≠ t) → w'.ownsRow base e size v n xs := fun ho he => own_aw ho k (fun i hi hs => by
    rcases hS i hs with h1 | ⟨t, cs, h1, h2⟩
    · have := (ho.lt i hi).2; omega
    · exact own_blk_ne ho h1 (he i t cs hs h1 h2) hi)
  exact ⟨q h.own (fun _ _ _ _ _ h => h.1), fun f hf => q (h.pts f hf) (fun _ _ _ _ _ h => h.2.1), h.dis, fun f hf x hx => q (h.lab f hf x hx) (fun _ _ _ _ _ h => h.2.2)⟩
theorem FamsAt.far (h : FamsAt w base fv l) {b : Nat} {t : TypeId} {cs : Array Value} (hb : Blk w b t cs) (h1 : 66 ≠ t) (h2 : 70 ≠ t) (h3 : 118 ≠ t) (o : Nat) (u : Value) : FamsAt (w.setCell ⟨b, o, none⟩ u) base fv l :=
  h.aw (S := [b]) ((Aw.refl _ _).setCell (.inl (by simp)) u) (fun i hi => by
    rw [List.mem_singleton] at hi; subst hi
    exact .inr ⟨t, cs, hb, h1, h2, h3⟩)
theorem FamsAt.form (h : FamsAt w base fv l) : ∃ A c, fv = .slice A l.length c := own_form h.own
theorem FamsAt.rows {A : Option Addr} {c : Nat} (h : FamsAt w base (.slice A l.length c) l) : IsRows famCell 5 w w.heap.size A l.length l := by
  obtain ⟨A', c', e, hr⟩ := own_rws (f := famCell) (fun _ => rfl) h.own rfl
  injection e with e1 e2 e3
  subst e1
  exact hr
/-- One family more, without points. -/
theorem FamsAt.push {fv' : Value} {n : ByteArray} (h : FamsAt w base fv l) (hg : w.grownBy w' fv.ownBlock) (ho : w'.ownsRow base 66 5 fv' (l.length + 1) (l.flatMap famCell ++ famCell ⟨n, 0, ⟨#[]⟩, ⟨#[]⟩, [], none, 0⟩)) : FamsAt w' base fv' (l ++ [⟨n, 0, ⟨#[]⟩, ⟨#[]⟩, [], none, 0⟩]) := by
  have q : ∀ {e : TypeId} {size n : Nat} {v : Value} {xs : List Value}, w.ownsRow base e size v n xs → e ≠ 66 → w'.ownsRow base e size v n xs := fun h' he => h'.kept hg (by
    cases hb : Value.ownBlock _ with
    | none => exact .inl rfl
    | some b => exact .inr (fun e => own_own_ne h' h.own he b hb e.symm))
  refine ⟨by simpa using ho, fun f hf => ?_, ?_, fun f hf x hx => ?_⟩
  · rcases List.mem_append.1 hf with hf | hf
    · exact q (h.pts f hf) (by decide)
    · rw [List.mem_singleton] at hf; subst hf
      exact World.ownsRow_nil _ _ _ _
  · rw [List.pairwise_append]
    exact ⟨h.dis, List.pairwise_singleton _ _, fun a _ b hb => by
      rw [List.mem_singleton] at hb; subst hb
      intro k _ e
      simp [VFam.pv, Value.ownBlock] at e⟩
  · rcases List.mem_append.1 hf with hf | hf
    · exact q (h.lab f hf x hx) (by decide)
    · rw [List.mem_singleton] at hf; subst hf
      simp at hx
end
/-- A point more: the family that it is put to. -/
def VFam.putP (x : VFam) (p : VPnt) (A : Option Addr) (c : Nat) : VFam := { x with pts := x.pts ++ [p], A := A, c := c }
theorem flat_set {l : List VFam} {i : Nat} {x y : VFam} {u : Value} (h : l[i]? = some x) (hy : famCell y = (famCell x).set 4 u) : (l.flatMap famCell).set (i * 5 + 4) u = (l.set i y).flatMap famCell := by
  induction l generalizing i with
  | nil => simp at h
  | cons z r ih =>
    cases i with
    | zero =>
      simp at h; subst h
      rw [List.set_cons_zero, List.flatMap_cons, List.flatMap_cons, hy]
      rw [List.set_append_left _ _ (by show 0 * 5 + 4 < 5; omega)]
    | succ i =>
      rw [List.set_cons_succ, List.flatMap_cons, List.flatMap_cons, List.set_append_right _ _ (by show 5 ≤ (i + 1) * 5 + 4; omega)]
      have e : (i + 1) * 5 + 4 - (famCell z).length = i * 5 + 4 := by show (i + 1) * 5 + 4 - 5 = _; omega
      rw [e, ih (by simpa using h)]
section
variable {w w' : World} {base : Nat} {l : List VFam}
/-- A point put to a family: its points' row has grown, the family's cell is turned. -/
theorem FamsAt.put {g fc i : Nat} {x : VFam} {p : VPnt} {A : Option Addr} {c : Nat} (h : FamsAt w base (.slice (some ⟨g, 0, none⟩) l.length fc) l) (hx : l[i]? = some x) (hg : w.grownBy w' x.pv.ownBlock)
    (hat : (Value.slice A (x.pts.length + 1) c).ownBlock = x.pv.ownBlock ∨ ∀ b, (Value.slice A (x.pts.length + 1) c).ownBlock = some b → w.heap.size ≤ b)
    (ho : w'.ownsRow base 70 9 (.slice A (x.pts.length + 1) c) (x.pts.length + 1) (x.pts.flatMap pntCell ++ pntCell p)) (hl : w.ownsRow base 118 2 p.lv p.pt.labels.length (p.pt.labels.flatMap labCell)) :
    FamsAt (w'.setCell ⟨g, i * 5 + 4, none⟩ (.slice A (x.pts.length + 1) c)) base (.slice (some ⟨g, 0, none⟩) l.length fc) (l.set i (x.putP p A c)) := by
  have hi : i < l.length := (List.getElem?_eq_some_iff.1 hx).1
  have hxm : x ∈ l := List.mem_of_getElem? hx
  have q : ∀ {e : TypeId} {size n : Nat} {v : Value} {xs : List Value}, w.ownsRow base e size v n xs → e ≠ 70 → w'.ownsRow base e size v n xs := fun h' he => h'.kept hg (by
    cases hb : Value.ownBlock _ with
    | none => exact .inl rfl
    | some b => exact .inr (fun e => own_own_ne h' (h.pts x hxm) he b hb e.symm))
  have ho' := q h.own (by decide)
  have kS : Aw [g] w' (w'.setCell ⟨g, i * 5 + 4, none⟩ (.slice A (x.pts.length + 1) c)) := (Aw.refl _ _).setCell (.inl (by simp)) _
  have q2 : ∀ {e : TypeId} {size n : Nat} {v : Value} {xs : List Value}, w'.ownsRow base e size v n xs → e ≠ 66 → (w'.setCell ⟨g, i * 5 + 4, none⟩ (.slice A (x.pts.length + 1) c)).ownsRow base e size v n xs := fun h' he => own_aw h' kS (fun b hb hs => by
    rw [List.mem_singleton] at hs; subst hs
    exact own_own_ne h' ho' he b hb rfl)
  have hoth : ∀ j y, l[j]? = some y → j ≠ i → ∀ b, y.pv.ownBlock = some b → x.pv.ownBlock ≠ some b := fun j y hy hji b hb hc => by
    have hj : j < l.length := (List.getElem?_eq_some_iff.1 hy).1
    have hd := List.pairwise_iff_getElem.1 h.dis
    have e1 : l[j] = y := (List.getElem?_eq_some_iff.1 hy).2
    have e2 : l[i] = x := (List.getElem?_eq_some_iff.1 hx).2
    rcases Nat.lt_or_gt_of_ne hji with h1 | h1
    · have := hd j i hj hi h1 b (by rw [e1]; exact hb)
      rw [e2] at this; exact this hc
    · have := hd i j hi hj h1 b (by rw [e2]; exact hc)
      rw [e1] at this; exact this hb
  have hmem : ∀ f, f ∈ l.set i (x.putP p A c) → f = x.putP p A c ∨ ∃ j, j ≠ i ∧ l[j]? = some f := fun f hf => by
    obtain ⟨j, hj, e⟩ := List.getElem_of_mem hf
    rw [List.getElem_set] at e
    split at e
    · exact .inl e.symm
    · rename_i hne
      rw [List.length_set] at hj
      exact .inr ⟨j, fun e => hne e.symm, by rw [List.getElem?_eq_getElem hj, e]⟩
  have hpts : ∀ j f, j ≠ i → l[j]? = some f → w'.ownsRow base 70 9 f.pv f.pts.length (f.pts.flatMap pntCell) := fun j f hj hf => (h.pts f (List.mem_of_getElem? hf)).kept hg (by
    cases hb : Value.ownBlock _ with
    | none => exact .inl rfl
    | some b => exact .inr (fun e => hoth j f hf hj b hb e.symm))
  refine ⟨?_, fun f hf => ?_, ?_, fun f hf y hy => ?_⟩
  · have h1 := (ho'.stored (i * 5 + 4) (.slice A (x.pts.length + 1) c)).1
    rw [flat_set (y := x.putP p A c) hx (by simp [VFam.putP, famCell])] at h1
    rw [List.length_set]
    exact h1
  · rcases hmem f hf with rfl | ⟨j, hj, hf⟩
    · have := q2 ho (by decide)
      show World.ownsRow _ _ _ _ (.slice A (x.pts ++ [p]).length c) (x.pts ++ [p]).length ((x.pts ++ [p]).flatMap pntCell)
      rw [List.length_append, List.flatMap_append, List.length_singleton]
      simpa using this
    · exact q2 (hpts j f hj hf) (by decide)
  · rw [List.pairwise_iff_getElem]
    intro j k hj hk hjk b hb hc
    rw [List.length_set] at hj hk
    have hd := List.pairwise_iff_getElem.1 h.dis j k hj hk hjk
    have hnew : ∀ m (hm : m < l.length), m ≠ i → ∀ b, (x.putP p A c).pv.ownBlock = some b → l[m].pv.ownBlock ≠ some b := fun m hm hmi b hb hc => by
      have hb' : (Value.slice A (x.pts.length + 1) c).ownBlock = some b := by
        have : (x.putP p A c).pv = .slice A (x.pts.length + 1) c := by simp [VFam.putP, VFam.pv]
        rw [this] at hb; exact hb
      rcases hat with h1 | h1
      · rw [h1] at hb'
        exact hoth m l[m] (List.getElem?_eq_getElem hm) hmi b hc hb'
      · have h2 := h1 b hb'
        have h3 := ((h.pts l[m] (List.getElem_mem hm)).lt b hc).2
        omega
    rw [List.getElem_set] at hb hc
    split at hb
    · rename_i e1; subst e1
      split at hc
      · omega
      · exact hnew k hk (by omega) b hb hc
    · split at hc
      · rename_i e2; subst e2
        exact hnew j hj (by omega) b hc hb
      · exact hd b hb hc
  · rcases hmem f hf with rfl | ⟨j, hj, hf⟩
    · rcases List.mem_append.1 hy with hy | hy
      · exact q2 (q (h.lab x hxm y hy) (by decide)) (by decide)
      · rw [List.mem_singleton] at hy; subst hy
        exact q2 (q hl (by decide)) (by decide)
    · exact q2 (q (h.lab f (List.mem_of_getElem? hf) y hy) (by decide)) (by decide)
end
end Go.Proofs.YtoplengednoldaaGreatDoor
