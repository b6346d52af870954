/- The walks of label.Get, label.Without and of the reference's. Families of the call's own: what stands in memory, and how it grows. The reader of the open format: its memory; the walks of fails, stands. The walks of point.Roles, family.Series, family.Kind, openread.Belongs. The walks of family.Series, openread.Belongs, family.Kind. Families in memory: where one stands; the row of families where a row of points has grown. The walks of label.Compare, of slices.CompareFunc and cmp.Or at labels, of the reference's CompareLabels. The walks of point.Compare and of what it calls. The walks of slices.IndexFunc and slices.ContainsFunc at families, points, tags, with openread's closures. The walks of openread's reader: stands, begins, known. The walks of openread's reader: known; the rows' boxes. -/
import Derived.Test.YtcapbikelgcmmaaGreatDoorMgPl9
import Derived.Test.YtcapbikelgcmmaaGreatDoorCore
import Derived.Test.YtcapbikelgcmmaaGreatDoorMem
import Derived.Test.YtcapbikelgcmmaaGreatDoorShelfL
import Derived.BigQuiet
import Derived.Deep.QuietTactic
import Derived.Test.YtcapbikelgcmmaaGreatDoorMgSc9
import Derived.Test.YtcapbikelgcmmaaGreatDoorSpot
import Derived.Test.YtcapbikelgcmmaaGreatDoorMgOp9
import Derived.Test.YtcapbikelgcmmaaGreatDoorQuiet2
import Derived.Deep.RegionHeld3
import Derived.Deep.DrawnRows
import Derived.WalkLawsBesides
import Derived.Test.YtcapbikelgcmmaaGreatDoorMgSum9
import Derived.Deep.RegionLaw
namespace Go.Proofs.YtcapbikelgcmmaaGreatDoor
set_option linter.unusedVariables false
set_option linter.unusedSimpArgs false
open Go.RowKit
section
theorem Tryz.infoLabel : (Tryz.prog.info? 183).map (fun i => (i.zero, i.size, i.bytes)) = some (some (.agg #[.string ⟨#[]⟩, .string ⟨#[]⟩]), 2, 32) := by kernel_rfl
theorem blk_at {w : World} {o : Obj} {g : Nat} (h : g = w.heap.size) : (w.alloc o).heap[g]? = some o := by subst h; exact heap_alloc_new w o
theorem lab_at {w : World} {B : Nat} {A : Option Addr} {n : Nat} {L : List Lab} (h : IsRows labCell 2 w B A n L) {k : Nat} (hk : k < n) : ∃ (b off : Nat) (x y : ByteArray), A = some ⟨b, off, none⟩ ∧ b < B ∧ L[k]? = some (x, y) ∧ w.cell? ⟨b, off + k * 2, none⟩ = some (.string x) ∧ w.cell? ⟨b, off + k * 2 + 1, none⟩ = some (.string y) := by
  obtain ⟨b, off, rfl, hb, hc⟩ := h.2 (by omega)
  obtain ⟨⟨x, y⟩, hx⟩ : ∃ z, L[k]? = some z := ⟨_, List.getElem?_eq_getElem (by have := h.1; omega)⟩
  refine ⟨b, off, x, y, rfl, hb, hx, ?_, ?_⟩
  · exact hc k (x, y) 0 (.string x) hx rfl
  · exact hc k (x, y) 1 (.string y) hx rfl
theorem str_at {w : World} {B : Nat} {A : Option Addr} {n : Nat} {L : List ByteArray} (h : IsRows strCell 1 w B A n L) {k : Nat} (hk : k < n) : ∃ (b off : Nat) (x : ByteArray), A = some ⟨b, off, none⟩ ∧ b < B ∧ L[k]? = some x ∧ w.cell? ⟨b, off + k, none⟩ = some (.string x) := by
  obtain ⟨b, off, rfl, hb, hc⟩ := h.2 (by omega)
  obtain ⟨x, hx⟩ : ∃ z, L[k]? = some z := ⟨_, List.getElem?_eq_getElem (by have := h.1; omega)⟩
  exact ⟨b, off, x, rfl, hb, hx, by have := hc k x 0 (.string x) hx rfl; simpa using this⟩
theorem drop_at {α : Type} {L : List α} {k : Nat} {x : α} (h : L[k]? = some x) : L.drop k = x :: L.drop (k + 1) := by
  obtain ⟨h1, h2⟩ := List.getElem?_eq_some_iff.1 h
  rw [List.drop_eq_getElem_cons h1, h2]
theorem get_yes {L : List Lab} {k : Nat} {x y : ByteArray} {n : List UInt8} (h : L[k]? = some (x, y)) (e : (x.data.toList == n) = true) : getL (L.drop k) n = some (x, y) := by
  rw [drop_at h, getL, List.find?_cons]
  have : (nmL (x, y) == n) = true := e
  rw [this]
theorem get_no {L : List Lab} {k : Nat} {x y : ByteArray} {n : List UInt8} (h : L[k]? = some (x, y)) (e : (x.data.toList == n) = false) : getL (L.drop k) n = getL (L.drop (k + 1)) n := by
  rw [drop_at h, getL, List.find?_cons]
  have : (nmL (x, y) == n) = false := e
  rw [this, getL]
theorem get_end {L : List Lab} {k : Nat} {n : List UInt8} (h : L.length ≤ k) : getL (L.drop k) n = none := by
  rw [List.drop_of_length_le h]; rfl
theorem ret_get {r q : Option Lab} (h : r = q) : Ending.returned (.tuple #[.string (getV q), .bool q.isSome]) = .returned (.tuple #[.string (getV r), .bool r.isSome]) := by rw [h]
/-! ### without -/
def inN (names : List ByteArray) (x : ByteArray) : Bool := names.any fun n => n.data.toList == x.data.toList
theorem out_yes {L : List Lab} {k : Nat} {x y : ByteArray} {names : List ByteArray} (h : L[k]? = some (x, y)) (e : inN names x = false) : outL (L.take (k + 1)) names = outL (L.take k) names ++ [(x, y)] := by
  have e2 : (names.any fun n => n.data.toList == nmL (x, y)) = false := e
  rw [List.take_add_one, h, outL, outL, List.filter_append]
  simp only [Option.toList_some, List.filter_cons, List.filter_nil, e2]; rfl
theorem out_no {L : List Lab} {k : Nat} {x y : ByteArray} {names : List ByteArray} (h : L[k]? = some (x, y)) (e : inN names x = true) : outL (L.take (k + 1)) names = outL (L.take k) names := by
  have e2 : (names.any fun n => n.data.toList == nmL (x, y)) = true := e
  rw [List.take_add_one, h, outL, outL, List.filter_append]
  simp only [Option.toList_some, List.filter_cons, List.filter_nil, e2]; simp
theorem out_len (L : List Lab) (k : Nat) (names : List ByteArray) : (outL (L.take k) names).length ≤ k := Nat.le_trans (List.length_filter_le _ _) (List.length_take_le _ _)
end
section
theorem Tryz.infoPnt : (Tryz.prog.info? 73).map (fun i => (i.zero, i.size, i.bytes)) = some (some (.agg #[.slice none 0 0, .int .i64 0, .bool false, .int .i64 0, .int .i64 0, .int .i64 0, .int .i64 0, .bool false, .int .i64 0]), 9, 88) := by kernel_rfl
theorem Tryz.infoFam : (Tryz.prog.info? 68).map (fun i => (i.zero, i.size, i.bytes)) = some (some (.agg #[.string ⟨#[]⟩, .int .i64 0, .string ⟨#[]⟩, .string ⟨#[]⟩, .slice none 0 0]), 5, 80) := by kernel_rfl
def VFam.pv (x : VFam) : Value := .slice x.A x.pts.length x.c
def VPnt.lv (x : VPnt) : Value := .slice x.A x.pt.labels.length x.c
structure FamsAt (w : World) (base : Nat) (fv : Value) (l : List VFam) : Prop where
  own : w.ownsRow base 68 5 fv l.length (l.flatMap famCell)
  pts : ∀ f ∈ l, w.ownsRow base 73 9 f.pv f.pts.length (f.pts.flatMap pntCell)
  dis : l.Pairwise fun f g => ∀ b, f.pv.ownBlock = some b → g.pv.ownBlock ≠ some b
  lab : ∀ f ∈ l, ∀ x ∈ f.pts, w.ownsRow base 183 2 x.lv x.pt.labels.length (x.pt.labels.flatMap labCell)
theorem FamsAt.nil_ {w : World} {base : Nat} : FamsAt w base (.slice none 0 0) [] := ⟨World.ownsRow_nil _ _ _ _, by simp, List.Pairwise.nil, by simp⟩
section
variable {w w' : World} {base : Nat} {fv : Value} {l : List VFam}
theorem FamsAt.bel (h : FamsAt w base fv l) (k : Below w.heap.size w w') : FamsAt w' base fv l :=
  ⟨own_bel h.own k, fun f hf => own_bel (h.pts f hf) k, h.dis, fun f hf x hx => own_bel (h.lab f hf x hx) k⟩
theorem FamsAt.alloc (h : FamsAt w base fv l) (o : Obj) : FamsAt (w.alloc o) base fv l := h.bel ((Below.refl _ _).alloc (Nat.le_refl _) o)
theorem FamsAt.drew (h : FamsAt w base fv l) : FamsAt w.drew base fv l := h.bel (Below.refl _ _).drew
theorem FamsAt.drewN (h : FamsAt w base fv l) (n : Nat) : FamsAt (w.drewN n) base fv l := h.bel (below_drewN (Below.refl _ _) n)
/-- Blocks of other types may turn. -/
theorem FamsAt.aw {S : List Nat} (h : FamsAt w base fv l) (k : Aw S w w') (hS : ∀ i, i ∈ S → w.heap.size ≤ i ∨ ∃ t cs, Blk w i t cs ∧ 68 ≠ t ∧ 73 ≠ t ∧ 183 ≠ t) : FamsAt w' base fv l := by
  have q : ∀ {e : TypeId} {size n : Nat} {v : Value} {xs : List Value}, w.ownsRow base e size v n xs → (∀ i t cs, i ∈ S → Blk w i t cs → (68 ≠ t ∧ 73 ≠ t ∧ 183 ≠ t) → e ≠ t) → w'.ownsRow base e size v n xs := fun ho he => own_aw ho k (fun i hi hs => by
    rcases hS i hs with h1 | ⟨t, cs, h1, h2⟩
    · have := (ho.lt i hi).2; omega
    · exact own_blk_ne ho h1 (he i t cs hs h1 h2) hi)
  exact ⟨q h.own (fun _ _ _ _ _ h => h.1), fun f hf => q (h.pts f hf) (fun _ _ _ _ _ h => h.2.1), h.dis, fun f hf x hx => q (h.lab f hf x hx) (fun _ _ _ _ _ h => h.2.2)⟩
theorem FamsAt.far (h : FamsAt w base fv l) {b : Nat} {t : TypeId} {cs : Array Value} (hb : Blk w b t cs) (h1 : 68 ≠ t) (h2 : 73 ≠ t) (h3 : 183 ≠ t) (o : Nat) (u : Value) : FamsAt (w.setCell ⟨b, o, none⟩ u) base fv l :=
  h.aw (S := [b]) ((Aw.refl _ _).setCell (.inl (by simp)) u) (fun i hi => by
    rw [List.mem_singleton] at hi; subst hi
    exact .inr ⟨t, cs, hb, h1, h2, h3⟩)
theorem FamsAt.form (h : FamsAt w base fv l) : ∃ A c, fv = .slice A l.length c := own_form h.own
theorem FamsAt.rows {A : Option Addr} {c : Nat} (h : FamsAt w base (.slice A l.length c) l) : IsRows famCell 5 w w.heap.size A l.length l := by
  obtain ⟨A', c', e, hr⟩ := own_rws (f := famCell) (fun _ => rfl) h.own rfl
  injection e with e1 e2 e3
  subst e1
  exact hr
/-- One family more, without points. -/
theorem FamsAt.push {fv' : Value} {n : ByteArray} (h : FamsAt w base fv l) (hg : w.grownBy w' fv.ownBlock) (ho : w'.ownsRow base 68 5 fv' (l.length + 1) (l.flatMap famCell ++ famCell ⟨n, 0, ⟨#[]⟩, ⟨#[]⟩, [], none, 0⟩)) : FamsAt w' base fv' (l ++ [⟨n, 0, ⟨#[]⟩, ⟨#[]⟩, [], none, 0⟩]) := by
  have q : ∀ {e : TypeId} {size n : Nat} {v : Value} {xs : List Value}, w.ownsRow base e size v n xs → e ≠ 68 → w'.ownsRow base e size v n xs := fun h' he => h'.kept hg (by
    cases hb : Value.ownBlock _ with
    | none => exact .inl rfl
    | some b => exact .inr (fun e => own_own_ne h' h.own he b hb e.symm))
  refine ⟨by simpa using ho, fun f hf => ?_, ?_, fun f hf x hx => ?_⟩
  · rcases List.mem_append.1 hf with hf | hf
    · exact q (h.pts f hf) (by decide)
    · rw [List.mem_singleton] at hf; subst hf
      exact World.ownsRow_nil _ _ _ _
  · rw [List.pairwise_append]
    exact ⟨h.dis, List.pairwise_singleton _ _, fun a _ b hb => by
      rw [List.mem_singleton] at hb; subst hb
      intro k _ e
      simp [VFam.pv, Value.ownBlock] at e⟩
  · rcases List.mem_append.1 hf with hf | hf
    · exact q (h.lab f hf x hx) (by decide)
    · rw [List.mem_singleton] at hf; subst hf
      simp at hx
end
/-- A point more: the family that it is put to. -/
def VFam.putP (x : VFam) (p : VPnt) (A : Option Addr) (c : Nat) : VFam := { x with pts := x.pts ++ [p], A := A, c := c }
theorem flat_set {l : List VFam} {i : Nat} {x y : VFam} {u : Value} (h : l[i]? = some x) (hy : famCell y = (famCell x).set 4 u) : (l.flatMap famCell).set (i * 5 + 4) u = (l.set i y).flatMap famCell := by
  induction l generalizing i with
  | nil => simp at h
  | cons z r ih =>
    cases i with
    | zero =>
      simp at h; subst h
      rw [List.set_cons_zero, List.flatMap_cons, List.flatMap_cons, hy]
      rw [List.set_append_left _ _ (by show 0 * 5 + 4 < 5; omega)]
    | succ i =>
      rw [List.set_cons_succ, List.flatMap_cons, List.flatMap_cons, List.set_append_right _ _ (by show 5 ≤ (i + 1) * 5 + 4; omega)]
      have e : (i + 1) * 5 + 4 - (famCell z).length = i * 5 + 4 := by show (i + 1) * 5 + 4 - 5 = _; omega
      rw [e, ih (by simpa using h)]
section
variable {w w' : World} {base : Nat} {l : List VFam}
/-- A point put to a family: its points' row has grown, the family's cell is turned. -/
theorem FamsAt.put {g fc i : Nat} {x : VFam} {p : VPnt} {A : Option Addr} {c : Nat} (h : FamsAt w base (.slice (some ⟨g, 0, none⟩) l.length fc) l) (hx : l[i]? = some x) (hg : w.grownBy w' x.pv.ownBlock)
    (hat : (Value.slice A (x.pts.length + 1) c).ownBlock = x.pv.ownBlock ∨ ∀ b, (Value.slice A (x.pts.length + 1) c).ownBlock = some b → w.heap.size ≤ b)
    (ho : w'.ownsRow base 73 9 (.slice A (x.pts.length + 1) c) (x.pts.length + 1) (x.pts.flatMap pntCell ++ pntCell p)) (hl : w.ownsRow base 183 2 p.lv p.pt.labels.length (p.pt.labels.flatMap labCell)) :
    FamsAt (w'.setCell ⟨g, i * 5 + 4, none⟩ (.slice A (x.pts.length + 1) c)) base (.slice (some ⟨g, 0, none⟩) l.length fc) (l.set i (x.putP p A c)) := by
  have hi : i < l.length := (List.getElem?_eq_some_iff.1 hx).1
  have hxm : x ∈ l := List.mem_of_getElem? hx
  have q : ∀ {e : TypeId} {size n : Nat} {v : Value} {xs : List Value}, w.ownsRow base e size v n xs → e ≠ 73 → w'.ownsRow base e size v n xs := fun h' he => h'.kept hg (by
    cases hb : Value.ownBlock _ with
    | none => exact .inl rfl
    | some b => exact .inr (fun e => own_own_ne h' (h.pts x hxm) he b hb e.symm))
  have ho' := q h.own (by decide)
  have kS : Aw [g] w' (w'.setCell ⟨g, i * 5 + 4, none⟩ (.slice A (x.pts.length + 1) c)) := (Aw.refl _ _).setCell (.inl (by simp)) _
  have q2 : ∀ {e : TypeId} {size n : Nat} {v : Value} {xs : List Value}, w'.ownsRow base e size v n xs → e ≠ 68 → (w'.setCell ⟨g, i * 5 + 4, none⟩ (.slice A (x.pts.length + 1) c)).ownsRow base e size v n xs := fun h' he => own_aw h' kS (fun b hb hs => by
    rw [List.mem_singleton] at hs; subst hs
    exact own_own_ne h' ho' he b hb rfl)
  have hoth : ∀ j y, l[j]? = some y → j ≠ i → ∀ b, y.pv.ownBlock = some b → x.pv.ownBlock ≠ some b := fun j y hy hji b hb hc => by
    have hj : j < l.length := (List.getElem?_eq_some_iff.1 hy).1
    have hd := List.pairwise_iff_getElem.1 h.dis
    have e1 : l[j] = y := (List.getElem?_eq_some_iff.1 hy).2
    have e2 : l[i] = x := (List.getElem?_eq_some_iff.1 hx).2
    rcases Nat.lt_or_gt_of_ne hji with h1 | h1
    · have := hd j i hj hi h1 b (by rw [e1]; exact hb)
      rw [e2] at this; exact this hc
    · have := hd i j hi hj h1 b (by rw [e2]; exact hc)
      rw [e1] at this; exact this hb
  have hmem : ∀ f, f ∈ l.set i (x.putP p A c) → f = x.putP p A c ∨ ∃ j, j ≠ i ∧ l[j]? = some f := fun f hf => by
    obtain ⟨j, hj, e⟩ := List.getElem_of_mem hf
    rw [List.getElem_set] at e
    split at e
    · exact .inl e.symm
    · rename_i hne
      rw [List.length_set] at hj
      exact .inr ⟨j, fun e => hne e.symm, by rw [List.getElem?_eq_getElem hj, e]⟩
  have hpts : ∀ j f, j ≠ i → l[j]? = some f → w'.ownsRow base 73 9 f.pv f.pts.length (f.pts.flatMap pntCell) := fun j f hj hf => (h.pts f (List.mem_of_getElem? hf)).kept hg (by
    cases hb : Value.ownBlock _ with
    | none => exact .inl rfl
    | some b => exact .inr (fun e => hoth j f hf hj b hb e.symm))
  refine ⟨?_, fun f hf => ?_, ?_, fun f hf y hy => ?_⟩
  · have h1 := (ho'.stored (i * 5 + 4) (.slice A (x.pts.length + 1) c)).1
    rw [flat_set (y := x.putP p A c) hx (by simp [VFam.putP, famCell])] at h1
    rw [List.length_set]
    exact h1
  · rcases hmem f hf with rfl | ⟨j, hj, hf⟩
    · have := q2 ho (by decide)
      show World.ownsRow _ _ _ _ (.slice A (x.pts ++ [p]).length c) (x.pts ++ [p]).length ((x.pts ++ [p]).flatMap pntCell)
      rw [List.length_append, List.flatMap_append, List.length_singleton]
      simpa using this
    · exact q2 (hpts j f hj hf) (by decide)
  · rw [List.pairwise_iff_getElem]
    intro j k hj hk hjk b hb hc
    rw [List.length_set] at hj hk
    have hd := List.pairwise_iff_getElem.1 h.dis j k hj hk hjk
    have hnew : ∀ m (hm : m < l.length), m ≠ i → ∀ b, (x.putP p A c).pv.ownBlock = some b → l[m].pv.ownBlock ≠ some b := fun m hm hmi b hb hc => by
      have hb' : (Value.slice A (x.pts.length + 1) c).ownBlock = some b := by
        have : (x.putP p A c).pv = .slice A (x.pts.length + 1) c := by simp [VFam.putP, VFam.pv]
        rw [this] at hb; exact hb
      rcases hat with h1 | h1
      · rw [h1] at hb'
        exact hoth m l[m] (List.getElem?_eq_getElem hm) hmi b hc hb'
      · have h2 := h1 b hb'
        have h3 := ((h.pts l[m] (List.getElem_mem hm)).lt b hc).2
        omega
    rw [List.getElem_set] at hb hc
    split at hb
    · rename_i e1; subst e1
      split at hc
      · omega
      · exact hnew k hk (by omega) b hb hc
    · split at hc
      · rename_i e2; subst e2
        exact hnew j hj (by omega) b hc hb
      · exact hd b hb hc
  · rcases hmem f hf with rfl | ⟨j, hj, hf⟩
    · rcases List.mem_append.1 hy with hy | hy
      · exact q2 (q (h.lab x hxm y hy) (by decide)) (by decide)
      · rw [List.mem_singleton] at hy; subst hy
        exact q2 (q hl (by decide)) (by decide)
    · exact q2 (q (h.lab f (List.mem_of_getElem? hf) y hy) (by decide)) (by decide)
end
end
section
/-- The reader's block. -/
def Ob (w : World) (r : Nat) (c o l k : Int) (s : ByteArray) (fv : Value) (t1 t2 t3 : Bool) (N : Nat) : Prop := Blk w r 77 #[.int .i64 c, .int .i64 o, .int .i64 l, .int .i64 k, .string s, fv, .bool false, .bool t1, .bool t2, .bool t3, .int .i64 (N : Int)]
section
variable {w w' : World} {r N : Nat} {c o l k : Int} {s : ByteArray} {fv : Value} {t1 t2 t3 : Bool}
theorem Ob.facts (h : Ob w r c o l k s fv t1 t2 t3 N) : (w.cell? ⟨r, 0, none⟩ = some (.int .i64 c) ∧ w.cell? ⟨r, 1, none⟩ = some (.int .i64 o) ∧ w.cell? ⟨r, 2, none⟩ = some (.int .i64 l) ∧ w.cell? ⟨r, 3, none⟩ = some (.int .i64 k) ∧ w.cell? ⟨r, 4, none⟩ = some (.string s) ∧ w.cell? ⟨r, 5, none⟩ = some fv ∧ w.cell? ⟨r, 6, none⟩ = some (.bool false) ∧ w.cell? ⟨r, 7, none⟩ = some (.bool t1) ∧ w.cell? ⟨r, 8, none⟩ = some (.bool t2) ∧ w.cell? ⟨r, 9, none⟩ = some (.bool t3) ∧ w.cell? ⟨r, 10, none⟩ = some (.int .i64 (N : Int))) ∧ ∀ i, w.frozen? ⟨r, i, none⟩ = false :=
  ⟨⟨(Blk.cell h 0).trans rfl, (Blk.cell h 1).trans rfl, (Blk.cell h 2).trans rfl, (Blk.cell h 3).trans rfl, (Blk.cell h 4).trans rfl, (Blk.cell h 5).trans rfl, (Blk.cell h 6).trans rfl, (Blk.cell h 7).trans rfl, (Blk.cell h 8).trans rfl, (Blk.cell h 9).trans rfl, (Blk.cell h 10).trans rfl⟩, fun i => Blk.frozen h i⟩
theorem Ob.aw {S : List Nat} (h : Ob w r c o l k s fv t1 t2 t3 N) (a : Aw S w w') (hr : r ∉ S) : Ob w' r c o l k s fv t1 t2 t3 N := Blk.aw h a hr
theorem Ob.alloc (h : Ob w r c o l k s fv t1 t2 t3 N) (o' : Obj) : Ob (w.alloc o') r c o l k s fv t1 t2 t3 N := Blk.alloc h o'
theorem Ob.far (h : Ob w r c o l k s fv t1 t2 t3 N) {p : Addr} (hp : r ≠ p.block) (u : Value) : Ob (w.setCell p u) r c o l k s fv t1 t2 t3 N := Blk.far h hp u
theorem Ob.fams (h : Ob w r c o l k s fv t1 t2 t3 N) (v : Value) : Ob (w.setCell ⟨r, 5, none⟩ v) r c o l k s v t1 t2 t3 N := Blk.set_ h 5 v
theorem Ob.more (h : Ob w r c o l k s fv t1 t2 t3 N) : Ob (w.setCell ⟨r, 10, none⟩ (.int .i64 ((N : Int) + 1))) r c o l k s fv t1 t2 t3 (N + 1) := Blk.set_ h 10 (.int .i64 ((N : Int) + 1))
end
/-- The fault of a code at a place, in the reader's block. -/
def Obf (w : World) (r : Nat) (c : Nat) (at_ : Nat) (s : ByteArray) (fv : Value) (t1 t2 t3 : Bool) (N : Nat) : Prop := Ob w r (c : Int) (fltO c s at_) (fltL c s at_) (fltC c s at_) s fv t1 t2 t3 N
set_option maxHeartbeats 1600000 in
theorem ofails_any (r : Nat) (c o l k : Int) (s : ByteArray) (fv : Value) (t1 t2 t3 : Bool) (N : Nat) (cd at_ : Nat) (w : World) (h : Ob w r c o l k s fv t1 t2 t3 N) (hs : s.size ≤ 1048576) :
    Calls Tryz.prog 76 #[.pointer (some ⟨r, 0, none⟩), .int .i64 (cd : Int), .int .i64 (at_ : Int)] w fun e w' => e = .returned (.bool false) ∧ Obf w' r cd at_ s fv t1 t2 t3 N ∧ Aw [r] w w' := by
  have kS := fun W => spAt_any (cd : Int) s (at_ : Int) W (Nat.le_trans hs (by decide))
  unfold Obf
  generalize fltO cd s at_ = O at *
  generalize fltL cd s at_ = L at *
  generalize fltC cd s at_ = C at *
  obtain ⟨⟨c0, c1, c2, c3, c4, c5, c6, c7, c8, c9, c10⟩, f⟩ := h.facts
  have f0 := f 0; have f1 := f 1; have f2 := f 2; have f3 := f 3
  clear f
  go_enter Tryz.func76, Tryz.ntmps76
  go_wp2_with (go_at_call 10; (with_reducible refine (kS _).mono ?_); rintro e w1 ⟨rfl, hb1⟩; have h1 := h.aw (Aw.ofBelow (S := []) hb1) (by simp); have hA1 := Aw.ofBelow (S := [r]) hb1; obtain ⟨⟨d0, d1, d2, d3, d4, d5, d6, d7, d8, d9, d10⟩, g⟩ := h1.facts; have g0 := g 0; have g1 := g 1; have g2 := g 2; have g3 := g 3)
  go_ret
  exact ⟨rfl, (((Blk.set_ h1 0 (.int .i64 (cd : Int))).set_ 1 (.int .i64 O)).set_ 2 (.int .i64 L)).set_ 3 (.int .i64 C), (((hA1.setCell (.inl (by simp)) _).setCell (.inl (by simp)) _).setCell (.inl (by simp)) _).setCell (.inl (by simp)) _⟩
/-- The reader with its families. -/
structure OA (w0 w : World) (r : Nat) (c o l k : Int) (s : ByteArray) (fv : Value) (fs : List VFam) (t1 t2 t3 : Bool) (N : Nat) : Prop where
  rd : Ob w r c o l k s fv t1 t2 t3 N
  fams : FamsAt w w0.heap.size fv fs
  aw : Aw [r] w0 w
  rl : r < w0.heap.size
section
variable {w0 w w' : World} {r N : Nat} {c o l k : Int} {s : ByteArray} {fv : Value} {fs : List VFam} {t1 t2 t3 : Bool}
theorem OA.call (h : OA w0 w r c o l k s fv fs t1 t2 t3 N) (a : Aw [] w w') : OA w0 w' r c o l k s fv fs t1 t2 t3 N :=
  ⟨h.rd.aw a (by simp), h.fams.aw a (by simp), h.aw.trans (a.mono (by simp)), h.rl⟩
theorem OA.drew (h : OA w0 w r c o l k s fv fs t1 t2 t3 N) : OA w0 w.drew r c o l k s fv fs t1 t2 t3 N := h.call (Aw.refl [] w).drew
theorem OA.alloc (h : OA w0 w r c o l k s fv fs t1 t2 t3 N) (ob : Obj) : OA w0 (w.alloc ob) r c o l k s fv fs t1 t2 t3 N := h.call ((Aw.refl [] w).alloc ob)
end
end
section
def zCell (z : Int) : List Value := [.int .i64 z]
def rolesZ (k : Int) : List Int := if k = 0 ∨ k = 1 ∨ k = 2 then [0] else if k = 3 then [1, 3, 4] else if k = 4 then [2, 3, 4] else []
def sufZ (k r : Int) : List UInt8 := if r = 1 then [95, 98, 117, 99, 107, 101, 116] else if r = 3 then [95, 99, 111, 117, 110, 116] else if r = 4 then [95, 115, 117, 109] else if k = 2 then [95, 116, 111, 116, 97, 108] else []
def belZ (nm : List UInt8) (k : Int) (s : List UInt8) : Option Int := (rolesZ k).find? fun r => nm ++ sufZ k r == s
theorem rolesZ_len (k : Int) : (rolesZ k).length ≤ 3 := by
  unfold rolesZ
  (repeat' split) <;> simp
theorem kind_cases (k : Int) : k = 0 ∨ k = 1 ∨ k = 2 ∨ k = 3 ∨ k = 4 ∨ ((k == 0) = false ∧ (k == 1) = false ∧ (k == 2) = false ∧ (k == 3) = false ∧ (k == 4) = false ∧ rolesZ k = []) := by
  by_cases h0 : k = 0
  · exact .inl h0
  by_cases h1 : k = 1
  · exact .inr (.inl h1)
  by_cases h2 : k = 2
  · exact .inr (.inr (.inl h2))
  by_cases h3 : k = 3
  · exact .inr (.inr (.inr (.inl h3)))
  by_cases h4 : k = 4
  · exact .inr (.inr (.inr (.inr (.inl h4))))
  · exact .inr (.inr (.inr (.inr (.inr ⟨by simpa using h0, by simpa using h1, by simpa using h2, by simpa using h3, by simpa using h4, by unfold rolesZ; rw [if_neg (by simp [h0, h1, h2]), if_neg h3, if_neg h4]⟩))))
theorem zs_made (w : World) (cs : Array Value) (xs : List Int) (T : TypeId) (h : cs.toList = xs.flatMap zCell) : IsRows zCell 1 (w.alloc (.cells cs T)) (w.alloc (.cells cs T)).heap.size (some ⟨w.heap.size, 0, none⟩) xs.length xs := IsRows.made (f := zCell) (fun _ => rfl) w T cs xs h
theorem oroles_any (k : Int) (w : World) : Calls Tryz.prog 36 #[.int .i64 k] w fun e w' => (∃ A c, e = .returned (.slice A (rolesZ k).length c) ∧ IsRows zCell 1 w' w'.heap.size A (rolesZ k).length (rolesZ k)) ∧ Below w.heap.size w w' := by
  rcases kind_cases k with rfl | rfl | rfl | rfl | rfl | ⟨h0, h1, h2, h3, h4, hr⟩
  · go_enter Tryz.func36, Tryz.ntmps36
    go_wp2_with fail
    go_ret
    exact ⟨⟨_, _, rfl, zs_made w _ [0] _ rfl⟩, bl_alloc (Below.refl _ _) _⟩
  · go_enter Tryz.func36, Tryz.ntmps36
    go_wp2_with fail
    go_ret
    exact ⟨⟨_, _, rfl, zs_made w _ [0] _ rfl⟩, bl_alloc (Below.refl _ _) _⟩
  · go_enter Tryz.func36, Tryz.ntmps36
    go_wp2_with fail
    go_ret
    exact ⟨⟨_, _, rfl, zs_made w _ [0] _ rfl⟩, bl_alloc (Below.refl _ _) _⟩
  · go_enter Tryz.func36, Tryz.ntmps36
    go_wp2_with fail
    go_ret
    exact ⟨⟨_, _, rfl, zs_made w _ [1, 3, 4] _ rfl⟩, bl_alloc (Below.refl _ _) _⟩
  · go_enter Tryz.func36, Tryz.ntmps36
    go_wp2_with fail
    go_ret
    exact ⟨⟨_, _, rfl, zs_made w _ [2, 3, 4] _ rfl⟩, bl_alloc (Below.refl _ _) _⟩
  · have HR := Lib.hid hr
    clear hr
    go_enter Tryz.func36, Tryz.ntmps36
    go_wp2_with fail
    go_ret
    refine ⟨⟨none, 0, ?_, ?_⟩, Below.refl _ _⟩
    · rw [HR.out]; rfl
    · rw [HR.out]; exact IsRows.nil_
set_option maxHeartbeats 1600000 in
theorem zindex_any (A : Option Addr) (n cap : Nat) (xs : List Int) (x : Int) (w : World) (hl : IsRows zCell 1 w w.heap.size A n xs) (hn : n ≤ 1000) :
    Calls Tryz.prog 168 #[.slice A n cap, .int .i64 x] w fun e w' => (∃ r : Int, e = .returned (.int .i64 r) ∧ decide (0 ≤ r) = xs.any (fun z => x == z)) ∧ w' = w := by
  have hll := hl.1
  go_enter Tryz.func168, Tryz.ntmps168
  go_wp2_with fail
  go_loop [8] (fun i => ∃ k : Nat, k ≤ n ∧ i = .int .i64 k ∧ Hid (∀ j z, j < k → xs[j]? = some z → (x == z) = false)) (fun i => n - (intOf i).toNat)
  case atStart => exact ⟨0, by omega, rfl, Lib.hid (fun j z h => by omega)⟩
  case round =>
    obtain ⟨k, hk, rfl, HG⟩ := hrel
    by_cases hlt : k < n
    · have hd : decide ((k : Int) < (n : Int)) = true := decide_eq_true (by omega)
      have hk0 : (0 : Int) ≤ k := by omega
      have hk1 : (k : Int) < (n : Int) := by omega
      obtain ⟨b, off, rfl, hb, hcs⟩ := hl.2 (by omega)
      obtain ⟨Z, hZ⟩ : ∃ Z, xs[k]? = some Z := ⟨_, List.getElem?_eq_getElem (by omega)⟩
      have q0 : w.cell? ⟨b, off + k, none⟩ = some (.int .i64 Z) := by have := hcs k Z 0 _ hZ rfl; simpa using this
      have HZ := Lib.hid hZ
      clear hcs hZ
      cases hq : (x == Z)
      · have HF : Hid (∀ j z, j < k + 1 → xs[j]? = some z → (x == z) = false) := Lib.hid (fun j z hj hz => by
          by_cases e : j = k
          · subst e; rw [HZ.out] at hz; injection hz with hz; rw [← hz]; exact hq
          · exact HG.out j z (by omega) hz)
        clear HG
        go_wp2_with fail
        exact ⟨⟨k + 1, by omega, rfl, HF⟩, by (simp only [intOf]; omega)⟩
      · have HF : Hid (xs.any (fun z => x == z) = true) := Lib.hid (List.any_eq_true.2 ⟨Z, List.mem_of_getElem? HZ.out, hq⟩)
        clear HG
        go_wp2_with fail
        go_ret
        exact ⟨⟨k, rfl, by rw [HF.out]; exact decide_eq_true (by omega)⟩, rfl⟩
    · have hd : decide ((k : Int) < (n : Int)) = false := decide_eq_false (by omega)
      have HF : Hid (xs.any (fun z => x == z) = false) := Lib.hid (by
        rw [List.any_eq_false]
        intro z hz
        obtain ⟨j, hj, rfl⟩ := List.getElem_of_mem hz
        rw [HG.out j _ (by omega) (List.getElem?_eq_getElem hj)]; simp)
      clear HG
      go_wp2_with fail
      go_ret
      exact ⟨⟨-1, rfl, by rw [HF.out]; rfl⟩, rfl⟩
theorem zcontains_any (A : Option Addr) (n cap : Nat) (xs : List Int) (x : Int) (w : World) (hl : IsRows zCell 1 w w.heap.size A n xs) (hn : n ≤ 1000) (hx : x ∈ xs) :
    Calls Tryz.prog 120 #[.slice A n cap, .int .i64 x] w fun e w' => e = .returned (.bool true) ∧ w' = w := by
  have kI := zindex_any A n cap xs x w hl hn
  rw [List.any_eq_true.2 ⟨x, hx, by simp⟩] at kI
  clear hx
  go_enter Tryz.func120, Tryz.ntmps120
  go_wp2_with (go_at_call 168; (with_reducible refine kI.mono ?_); rintro e w1 ⟨⟨r, rfl, hr⟩, hw1⟩; rw [hw1]; clear hw1 w1)
  go_ret
  first | exact ⟨ret_bool hr, rfl⟩ | exact ⟨rfl, rfl⟩
set_option maxHeartbeats 1600000 in
theorem sis_any (nm un hp : ByteArray) (k r : Int) (w : World) (hr : r ∈ rolesZ k) :
    Calls Tryz.prog 69 #[.agg #[.string nm, .int .i64 k, .string un, .string hp, .int .i64 r]] w fun e w' => e = .returned (.bool true) ∧ Below w.heap.size w w' := by
  have hB := Blk.new w 133 #[.string nm, .int .i64 k, .string un, .string hp, .int .i64 r]
  have hbl : Below w.heap.size w (w.alloc (.cells #[.string nm, .int .i64 k, .string un, .string hp, .int .i64 r] 133)) := bl_alloc (Below.refl _ _) _
  have HR := Lib.hid hr
  clear hr
  go_enter Tryz.func69, Tryz.ntmps69
  go_upto_region 1 with (fail)
  generalize w.alloc (.cells #[.string nm, .int .i64 k, .string un, .string hp, .int .i64 r] 133) = W at *
  have hS0 : (W.drew.cell? ⟨w.heap.size, 1, none⟩ = some (.int .i64 k) ∧ W.drew.cell? ⟨w.heap.size, 4, none⟩ = some (.int .i64 r)) ∧ Blk W.drew w.heap.size 133 #[.string nm, .int .i64 k, .string un, .string hp, .int .i64 r] ∧ Below w.heap.size w W.drew := ⟨⟨(Blk.cell hB 1).trans rfl, (Blk.cell hB 4).trans rfl⟩, hB.drew, hbl.drew⟩
  have hst : ∀ W1 W2, Blk W1 w.heap.size 133 #[.string nm, .int .i64 k, .string un, .string hp, .int .i64 r] ∧ Below w.heap.size w W1 → Below W1.heap.size W1 W2 → (W2.cell? ⟨w.heap.size, 1, none⟩ = some (.int .i64 k) ∧ W2.cell? ⟨w.heap.size, 4, none⟩ = some (.int .i64 r)) ∧ Blk W2 w.heap.size 133 #[.string nm, .int .i64 k, .string un, .string hp, .int .i64 r] ∧ Below w.heap.size w W2 := fun W1 W2 h1 h2 => by
    have h3 := h1.1.below h2 (Blk.lt h1.1)
    exact ⟨⟨(Blk.cell h3 1).trans rfl, (Blk.cell h3 4).trans rfl⟩, h3, bl_any h1.2 h2⟩
  go_region_held3 (fun w' => (w'.cell? ⟨w.heap.size, 1, none⟩ = some (.int .i64 k) ∧ w'.cell? ⟨w.heap.size, 4, none⟩ = some (.int .i64 r)) ∧ Blk w' w.heap.size 133 #[.string nm, .int .i64 k, .string un, .string hp, .int .i64 r] ∧ Below w.heap.size w w') (first | (with_reducible assumption) | (with_reducible exact hS0)) (first
    | (go_at_call 36; (with_reducible refine (oroles_any k _).mono ?_); rintro e w1 ⟨⟨A, c, rfl, hz⟩, hb1⟩; have S1 := hst _ _ (And.right (by with_reducible assumption)) hb1)
    | (go_at_call 120; (with_reducible refine (zcontains_any _ _ _ _ r _ hz (by have := rolesZ_len k; omega) HR.out).mono ?_); rintro e w2 ⟨rfl, hw2⟩; rw [hw2]; clear hw2 w2))
  all_goals
    rename_i hHeld
    obtain ⟨_, _, hY⟩ := hHeld
    go_wp2_with fail
    go_ret
    exact ⟨rfl, hY⟩
theorem str_add (x : ByteArray) (l : List UInt8) : x ++ (⟨l.toArray⟩ : ByteArray) = ⟨(x.data.toList ++ l).toArray⟩ := by
  apply bytes_ext
  simp
set_option maxHeartbeats 1600000 in
theorem sname_any (nm un hp : ByteArray) (k r : Int) (w : World) (hs : nm.size ≤ 4611686018427387903) :
    Calls Tryz.prog 70 #[.agg #[.string nm, .int .i64 k, .string un, .string hp, .int .i64 r]] w fun e w' => e = .returned (.string ⟨(nm.data.toList ++ sufZ k r).toArray⟩) ∧ Below w.heap.size w w' := by
  have hB := Blk.new w 133 #[.string nm, .int .i64 k, .string un, .string hp, .int .i64 r]
  have hbl : Below w.heap.size w (w.alloc (.cells #[.string nm, .int .i64 k, .string un, .string hp, .int .i64 r] 133)) := bl_alloc (Below.refl _ _) _
  have c0 := (Blk.cell hB 0).trans rfl
  have c1 := (Blk.cell hB 1).trans rfl
  have c4 := (Blk.cell hB 4).trans rfl
  obtain ⟨V, hV⟩ : ∃ V : ByteArray, V = ⟨(nm.data.toList ++ sufZ k r).toArray⟩ := ⟨_, rfl⟩
  rw [← hV]
  have s6 : ¬ 9223372036854775807 < nm.size + 6 := by omega
  have s7 : ¬ 9223372036854775807 < nm.size + 7 := by omega
  have s4 : ¬ 9223372036854775807 < nm.size + 4 := by omega
  by_cases h1 : r = 1
  · have HV : Hid (V = nm ++ ⟨#[95, 98, 117, 99, 107, 101, 116]⟩) := Lib.hid (by rw [hV]; unfold sufZ; rw [if_pos h1, ← str_add])
    subst h1
    clear hV
    go_enter Tryz.func70, Tryz.ntmps70
    go_wp2_with fail
    go_ret
    exact ⟨by rw [HV.out]; first | rfl | simp, hbl⟩
  by_cases h3 : r = 3
  · have HV : Hid (V = nm ++ ⟨#[95, 99, 111, 117, 110, 116]⟩) := Lib.hid (by rw [hV]; unfold sufZ; rw [if_neg h1, if_pos h3, ← str_add])
    subst h3
    clear hV
    go_enter Tryz.func70, Tryz.ntmps70
    go_wp2_with fail
    go_ret
    exact ⟨by rw [HV.out]; first | rfl | simp, hbl⟩
  by_cases h4 : r = 4
  · have HV : Hid (V = nm ++ ⟨#[95, 115, 117, 109]⟩) := Lib.hid (by rw [hV]; unfold sufZ; rw [if_neg h1, if_neg h3, if_pos h4, ← str_add])
    subst h4
    clear hV
    go_enter Tryz.func70, Tryz.ntmps70
    go_wp2_with fail
    go_ret
    exact ⟨by rw [HV.out]; first | rfl | simp, hbl⟩
  have e1 : (r == 1) = false := by simpa using h1
  have e3 : (r == 3) = false := by simpa using h3
  have e4 : (r == 4) = false := by simpa using h4
  by_cases k2 : k = 2
  · have HV : Hid (V = nm ++ ⟨#[95, 116, 111, 116, 97, 108]⟩) := Lib.hid (by rw [hV]; unfold sufZ; rw [if_neg h1, if_neg h3, if_neg h4, if_pos k2, ← str_add])
    subst k2
    clear hV h1 h3 h4
    go_enter Tryz.func70, Tryz.ntmps70
    go_wp2_with fail
    go_ret
    exact ⟨by rw [HV.out]; first | rfl | simp, hbl⟩
  · have HV : Hid (V = nm) := Lib.hid (by rw [hV]; unfold sufZ; rw [if_neg h1, if_neg h3, if_neg h4, if_neg k2, List.append_nil])
    have e2 : (k == 2) = false := by simpa using k2
    clear hV h1 h3 h4 k2
    go_enter Tryz.func70, Tryz.ntmps70
    go_wp2_with fail
    go_ret
    exact ⟨by rw [HV.out]; first | rfl | simp, hbl⟩
end
section
theorem series_any (nm un hp : ByteArray) (k r : Int) (w : World) (hs : nm.size ≤ 4611686018427387903) (hr : r ∈ rolesZ k) :
    Calls Tryz.prog 37 #[.agg #[.string nm, .int .i64 k, .string un, .string hp], .int .i64 r] w fun e w' => e = .returned (.tuple #[.string ⟨(nm.data.toList ++ sufZ k r).toArray⟩, .bool true]) ∧ Below w.heap.size w w' := by
  have b1 := Blk.alloc (Blk.new w 49 #[.string nm, .int .i64 k, .string un, .string hp]) (.cells #[.string nm, .int .i64 k, .string un, .string hp, .int .i64 r] 133)
  have b2 := Blk.new (w.alloc (.cells #[.string nm, .int .i64 k, .string un, .string hp] 49)) 133 #[.string nm, .int .i64 k, .string un, .string hp, .int .i64 r]
  have hz : (w.alloc (.cells #[.string nm, .int .i64 k, .string un, .string hp] 49)).heap.size = w.heap.size + 1 := by simp
  rw [hz] at b2
  have hbl : Below w.heap.size w ((w.alloc (.cells #[.string nm, .int .i64 k, .string un, .string hp] 49)).alloc (.cells #[.string nm, .int .i64 k, .string un, .string hp, .int .i64 r] 133)) := bl_alloc (bl_alloc (Below.refl _ _) _) _
  clear hz
  have h0 := (Blk.cell (Blk.new w 49 #[.string nm, .int .i64 k, .string un, .string hp]) 0).trans rfl
  have h1 := (Blk.cell (Blk.new w 49 #[.string nm, .int .i64 k, .string un, .string hp]) 1).trans rfl
  have h2 := (Blk.cell (Blk.new w 49 #[.string nm, .int .i64 k, .string un, .string hp]) 2).trans rfl
  have h3 := (Blk.cell (Blk.new w 49 #[.string nm, .int .i64 k, .string un, .string hp]) 3).trans rfl
  obtain ⟨V, hV⟩ : ∃ V : ByteArray, V = ⟨(nm.data.toList ++ sufZ k r).toArray⟩ := ⟨_, rfl⟩
  have kN := fun W => sname_any nm un hp k r W hs
  rw [← hV] at kN ⊢
  clear hV
  have kI := fun W => sis_any nm un hp k r W hr
  go_enter Tryz.func37, Tryz.ntmps37
  go_upto_region 2 with (fail)
  generalize ((w.alloc (.cells #[.string nm, .int .i64 k, .string un, .string hp] 49)).alloc (.cells #[.string nm, .int .i64 k, .string un, .string hp, .int .i64 r] 133)) = W at *
  have c0 := (Blk.cell b2 0).trans rfl; have c1 := (Blk.cell b2 1).trans rfl; have c2 := (Blk.cell b2 2).trans rfl; have c3 := (Blk.cell b2 3).trans rfl; have c4 := (Blk.cell b2 4).trans rfl
  go_wp2_with (first
    | (go_at_call 69; (with_reducible refine (kI _).mono ?_); rintro e w1 ⟨rfl, hb1⟩; have b3 := b2.below hb1 (Blk.lt b2); have d0 := (Blk.cell b3 0).trans rfl; have d1 := (Blk.cell b3 1).trans rfl; have d2 := (Blk.cell b3 2).trans rfl; have d3 := (Blk.cell b3 3).trans rfl; have d4 := (Blk.cell b3 4).trans rfl)
    | (go_at_call 70; (with_reducible refine (kN _).mono ?_); rintro e w2 ⟨rfl, hb2⟩))
  go_ret2
  exact ⟨rfl, bl_any (bl_any hbl hb1) hb2⟩
/-- What Belongs tells. -/
def belV (o : Option Int) : Value := match o with
  | some r => .tuple #[.int .i64 r, .bool true]
  | none => .tuple #[.int .i64 0, .bool false]
set_option maxRecDepth 100000 in
set_option maxHeartbeats 3200000 in
theorem belongs_any (nm un hp : ByteArray) (k : Int) (s : ByteArray) (w : World) (hs : nm.size ≤ 4611686018427387903) :
    Calls Tryz.prog 15 #[.agg #[.string nm, .int .i64 k, .string un, .string hp], .string s] w fun e w' => e = .returned (belV (belZ nm.data.toList k s.data.toList)) ∧ Below w.heap.size w w' := by
  have hB := Blk.new w 49 #[.string nm, .int .i64 k, .string un, .string hp]
  have hbl : Below w.heap.size w (w.alloc (.cells #[.string nm, .int .i64 k, .string un, .string hp] 49)) := bl_alloc (Below.refl _ _) _
  obtain ⟨V, hV⟩ : ∃ V, belZ nm.data.toList k s.data.toList = V := ⟨_, rfl⟩
  rw [hV]
  have HV := Lib.hid hV
  clear hV
  have hlen := rolesZ_len k
  have HR : Hid (∀ r ∈ rolesZ k, ∀ W, Calls Tryz.prog 37 #[.agg #[.string nm, .int .i64 k, .string un, .string hp], .int .i64 r] W fun e w' => e = .returned (.tuple #[.string ⟨(nm.data.toList ++ sufZ k r).toArray⟩, .bool true]) ∧ Below W.heap.size W w') := Lib.hid (fun r hr W => series_any nm un hp k r W hs hr)
  have HV2 : Hid (V = (rolesZ k).find? (fun r => nm.data.toList ++ sufZ k r == s.data.toList)) := Lib.hid (by rw [← HV.out]; rfl)
  have kR := fun W => oroles_any k W
  generalize rolesZ k = Rs at *
  clear HV
  go_enter Tryz.func15, Tryz.ntmps15
  go_upto_region 1 with (fail)
  generalize w.alloc (.cells #[.string nm, .int .i64 k, .string un, .string hp] 49) = W at *
  have c1 := (Blk.cell hB 1).trans rfl
  go_wp2_with (go_at_call 36; (with_reducible refine (kR _).mono ?_); rintro e w1 ⟨⟨A, c, rfl, hz⟩, hb1⟩)
  have hB1 := hB.below hb1 (Blk.lt hB)
  have hbl1 := bl_any hbl hb1
  have hlt1 := Blk.lt hB1
  clear kR c1 hbl hb1 hB
  go_loopw [14] (fun i wr => Below w1.heap.size w1 wr ∧ ∃ j : Nat, j ≤ Rs.length ∧ i = .int .i64 j ∧ Hid (V = (Rs.drop j).find? (fun r => nm.data.toList ++ sufZ k r == s.data.toList))) (fun i _ => Rs.length - (intOf i).toNat)
  case atStart => exact ⟨Below.refl _ _, 0, by omega, rfl, by rw [List.drop_zero]; exact HV2⟩
  case round =>
    obtain ⟨hbw, j, hj, rfl, HG⟩ := hrel
    clear HV2
    have hBr := hB1.below hbw hlt1
    have c0 := (Blk.cell hBr 0).trans rfl; have c1 := (Blk.cell hBr 1).trans rfl; have c2 := (Blk.cell hBr 2).trans rfl; have c3 := (Blk.cell hBr 3).trans rfl
    by_cases hlt : j < Rs.length
    · have hd : decide ((j : Int) < (Rs.length : Int)) = true := decide_eq_true (by omega)
      have hj0 : (0 : Int) ≤ j := by omega
      have hj1 : (j : Int) < (Rs.length : Int) := by omega
      obtain ⟨b, off, rfl, hb, hcs⟩ := (hz.below hbw).2 (by omega)
      obtain ⟨r, hr⟩ : ∃ r, Rs[j]? = some r := ⟨_, List.getElem?_eq_getElem hlt⟩
      have q0 : wr.cell? ⟨b, off + j, none⟩ = some (.int .i64 r) := by have := hcs j r 0 _ hr rfl; simpa using this
      have kS := HR.out r (List.mem_of_getElem? hr)
      have hG := HG.out
      rw [drop_at hr, List.find?_cons] at hG
      clear hcs hr HG
      obtain ⟨N, hN⟩ : ∃ N : ByteArray, N = ⟨(nm.data.toList ++ sufZ k r).toArray⟩ := ⟨_, rfl⟩
      rw [← hN] at kS
      have hq : (nm.data.toList ++ sufZ k r == s.data.toList) = (N.toList == s.toList) := by rw [hN, ByteArray.toList_eq, ByteArray.toList_eq]
      rw [hq] at hG
      clear hq hN
      cases hcmp : (N.toList == s.toList)
      · rw [hcmp] at hG
        have HG2 := Lib.hid hG
        clear hG
        go_wp2_with (go_at_call 37; (with_reducible refine (kS _).mono ?_); rintro e w2 ⟨rfl, hb2⟩)
        exact ⟨⟨bl_any hbw hb2, j + 1, by omega, rfl, HG2⟩, by (simp only [intOf]; omega)⟩
      · rw [hcmp] at hG
        have HG2 : Hid (V = some r) := Lib.hid hG
        clear hG
        go_wp2_with (go_at_call 37; (with_reducible refine (kS _).mono ?_); rintro e w2 ⟨rfl, hb2⟩)
        go_ret2
        exact ⟨by rw [HG2.out]; rfl, bl_any (bl_any hbl1 hbw) hb2⟩
    · have hd : decide ((j : Int) < (Rs.length : Int)) = false := decide_eq_false (by omega)
      have HF : Hid (V = none) := Lib.hid (by rw [HG.out, List.drop_of_length_le (by omega)]; rfl)
      clear HG
      go_wp2_with fail
      go_ret2
      exact ⟨by rw [HF.out]; rfl, bl_any hbl1 hbw⟩
/-! ### the words of kinds -/
theorem kinds_any (w : World) : Calls Tryz.prog 129 #[] w fun e w' => e = .returned (.agg #[.string ⟨#[117, 110, 107, 110, 111, 119, 110]⟩, .string ⟨#[103, 97, 117, 103, 101]⟩, .string ⟨#[99, 111, 117, 110, 116, 101, 114]⟩, .string ⟨#[104, 105, 115, 116, 111, 103, 114, 97, 109]⟩, .string ⟨#[115, 117, 109, 109, 97, 114, 121]⟩]) ∧ Below w.heap.size w w' := by
  have hB := Blk.new w 106 #[.string ⟨#[117, 110, 107, 110, 111, 119, 110]⟩, .string ⟨#[103, 97, 117, 103, 101]⟩, .string ⟨#[99, 111, 117, 110, 116, 101, 114]⟩, .string ⟨#[104, 105, 115, 116, 111, 103, 114, 97, 109]⟩, .string ⟨#[115, 117, 109, 109, 97, 114, 121]⟩]
  have c0 := (Blk.cell hB 0).trans rfl; have c1 := (Blk.cell hB 1).trans rfl; have c2 := (Blk.cell hB 2).trans rfl; have c3 := (Blk.cell hB 3).trans rfl; have c4 := (Blk.cell hB 4).trans rfl
  go_enter Tryz.func129, Tryz.ntmps129
  go_wp2_with fail
  exact bodyPost_ret (v := .agg #[.string ⟨#[117, 110, 107, 110, 111, 119, 110]⟩, .string ⟨#[103, 97, 117, 103, 101]⟩, .string ⟨#[99, 111, 117, 110, 116, 101, 114]⟩, .string ⟨#[104, 105, 115, 116, 111, 103, 114, 97, 109]⟩, .string ⟨#[115, 117, 109, 109, 97, 114, 121]⟩]) (by simp [results, Tryz.results129, go_sem, c0, c1, c2, c3, c4]) rfl ⟨rfl, bl_alloc (Below.refl _ _) _⟩
/-- What Kind tells. -/
def kindV (o : Option Nat) : Value := match o with
  | some r => .tuple #[.int .i64 (r : Int), .bool true]
  | none => .tuple #[.int .i64 0, .bool false]
theorem kindO_cases (l : List UInt8) : (([117, 110, 107, 110, 111, 119, 110] == l) = true ∧ kindO l = some 0) ∨ (([117, 110, 107, 110, 111, 119, 110] == l) = false ∧ ([103, 97, 117, 103, 101] == l) = true ∧ kindO l = some 1) ∨ (([117, 110, 107, 110, 111, 119, 110] == l) = false ∧ ([103, 97, 117, 103, 101] == l) = false ∧ ([99, 111, 117, 110, 116, 101, 114] == l) = true ∧ kindO l = some 2) ∨ (([117, 110, 107, 110, 111, 119, 110] == l) = false ∧ ([103, 97, 117, 103, 101] == l) = false ∧ ([99, 111, 117, 110, 116, 101, 114] == l) = false ∧ ([104, 105, 115, 116, 111, 103, 114, 97, 109] == l) = true ∧ kindO l = some 3) ∨ (([117, 110, 107, 110, 111, 119, 110] == l) = false ∧ ([103, 97, 117, 103, 101] == l) = false ∧ ([99, 111, 117, 110, 116, 101, 114] == l) = false ∧ ([104, 105, 115, 116, 111, 103, 114, 97, 109] == l) = false ∧ ([115, 117, 109, 109, 97, 114, 121] == l) = true ∧ kindO l = some 4) ∨ (([117, 110, 107, 110, 111, 119, 110] == l) = false ∧ ([103, 97, 117, 103, 101] == l) = false ∧ ([99, 111, 117, 110, 116, 101, 114] == l) = false ∧ ([104, 105, 115, 116, 111, 103, 114, 97, 109] == l) = false ∧ ([115, 117, 109, 109, 97, 114, 121] == l) = false ∧ kindO l = none) := by
  unfold kindO kindW
  simp only [List.findIdx_cons, List.findIdx_nil]
  cases h0 : ([117, 110, 107, 110, 111, 119, 110] == l)
  · cases h1 : ([103, 97, 117, 103, 101] == l)
    · cases h2 : ([99, 111, 117, 110, 116, 101, 114] == l)
      · cases h3 : ([104, 105, 115, 116, 111, 103, 114, 97, 109] == l)
        · cases h4 : ([115, 117, 109, 109, 97, 114, 121] == l)
          · exact .inr (.inr (.inr (.inr (.inr ⟨rfl, rfl, rfl, rfl, rfl, rfl⟩))))
          · exact .inr (.inr (.inr (.inr (.inl ⟨rfl, rfl, rfl, rfl, rfl, rfl⟩))))
        · exact .inr (.inr (.inr (.inl ⟨rfl, rfl, rfl, rfl, rfl⟩)))
      · exact .inr (.inr (.inl ⟨rfl, rfl, rfl, rfl⟩))
    · exact .inr (.inl ⟨rfl, rfl, rfl⟩)
  · exact .inl ⟨rfl, rfl⟩
set_option maxRecDepth 100000 in
/-- An array of five words, by value, at an index. -/
theorem kidx {cs : Array Value} {v : Value} {i : Int} (h0 : 0 ≤ i) (h5 : i < 5) (hx : cs[i.toNat]? = some v) (w : World) : (Instr.index 106 (.agg cs) (.int .i64 i)).run Tryz.prog w = .ok v w := by
  have hu : Tryz.prog.underlying 106 = some (.array 5 9) := by rfl
  have hs : ∃ j, Tryz.prog.info? 9 = some j ∧ Tryz.prog.cellsOf 9 = 1 := ⟨_, rfl, rfl⟩
  obtain ⟨j, hj, hc⟩ := hs
  have hp : ∀ k : Nat, k = i.toNat → (part 9 cs k).run Tryz.prog w = .ok v w := fun k hk => run_part_plain w (by rfl) (by rw [hk]; exact hx)
  simp [Instr.index, run_underlying hu, asIntOf, go_sem, run_sizeOf w hj, hc, h0, h5, hp, hx]
theorem kidx0 (a b c d e : Value) (w : World) : (Instr.index 106 (.agg #[a, b, c, d, e]) (.int .i64 0)).run Tryz.prog w = .ok a w := kidx (by decide) (by decide) rfl w
theorem kidx1 (a b c d e : Value) (w : World) : (Instr.index 106 (.agg #[a, b, c, d, e]) (.int .i64 1)).run Tryz.prog w = .ok b w := kidx (by decide) (by decide) rfl w
theorem kidx2 (a b c d e : Value) (w : World) : (Instr.index 106 (.agg #[a, b, c, d, e]) (.int .i64 2)).run Tryz.prog w = .ok c w := kidx (by decide) (by decide) rfl w
theorem kidx3 (a b c d e : Value) (w : World) : (Instr.index 106 (.agg #[a, b, c, d, e]) (.int .i64 3)).run Tryz.prog w = .ok d w := kidx (by decide) (by decide) rfl w
theorem kidx4 (a b c d e : Value) (w : World) : (Instr.index 106 (.agg #[a, b, c, d, e]) (.int .i64 4)).run Tryz.prog w = .ok e w := kidx (by decide) (by decide) rfl w
attribute [local go_sem ↓] kidx0 kidx1 kidx2 kidx3 kidx4
set_option maxRecDepth 100000 in
set_option maxHeartbeats 3200000 in
theorem okind_any (s : ByteArray) (w : World) : Calls Tryz.prog 82 #[.string s] w fun e w' => e = .returned (kindV (kindO s.data.toList)) ∧ Below w.heap.size w w' := by
  have hcs := kindO_cases s.data.toList
  rw [← ByteArray.toList_eq] at hcs
  obtain ⟨V, hV⟩ : ∃ V, kindO s.toList = V := ⟨_, rfl⟩
  rw [← ByteArray.toList_eq]
  rw [hV] at hcs ⊢
  clear hV
  rcases hcs with ⟨h0, hv⟩ | ⟨h0, h1, hv⟩ | ⟨h0, h1, h2, hv⟩ | ⟨h0, h1, h2, h3, hv⟩ | ⟨h0, h1, h2, h3, h4, hv⟩ | ⟨h0, h1, h2, h3, h4, hv⟩
  all_goals
    have HV := Lib.hid hv
    clear hv
    go_enter Tryz.func82, Tryz.ntmps82
    go_wp2_with (go_at_call 129; (with_reducible refine (kinds_any _).mono ?_); rintro e w1 ⟨rfl, hb1⟩)
  · refine wp_loop_rounds 1 ?_
    rw [rounds_succ]; go_wp2_with fail
    go_ret2
    exact ⟨by rw [HV.out]; rfl, hb1⟩
  · refine wp_loop_rounds 2 ?_
    repeat (rw [rounds_succ]; go_wp2_with fail)
    go_ret2
    exact ⟨by rw [HV.out]; rfl, hb1⟩
  · refine wp_loop_rounds 3 ?_
    repeat (rw [rounds_succ]; go_wp2_with fail)
    go_ret2
    exact ⟨by rw [HV.out]; rfl, hb1⟩
  · refine wp_loop_rounds 4 ?_
    repeat (rw [rounds_succ]; go_wp2_with fail)
    go_ret2
    exact ⟨by rw [HV.out]; rfl, hb1⟩
  · refine wp_loop_rounds 5 ?_
    repeat (rw [rounds_succ]; go_wp2_with fail)
    go_ret2
    exact ⟨by rw [HV.out]; rfl, hb1⟩
  · refine wp_loop_rounds 6 ?_
    repeat (rw [rounds_succ]; go_wp2_with fail)
    go_ret2
    exact ⟨by rw [HV.out]; rfl, hb1⟩
end
section
section
variable {w w' : World} {fv : Value} {fs : List VFam}
/-- Where a family stands. -/
theorem FamsAt.at_ {base i : Nat} {X : VFam} (h : FamsAt w base fv fs) (hx : fs[i]? = some X) : ∃ g fc, fv = .slice (some ⟨g, 0, none⟩) fs.length fc ∧ base ≤ g ∧ w.cell? ⟨g, i * 5 + 4, none⟩ = some X.pv ∧ w.frozen? ⟨g, i * 5 + 4, none⟩ = false := by
  have hi : i < fs.length := (List.getElem?_eq_some_iff.1 hx).1
  have hr := h.own
  obtain ⟨A, fc, hv⟩ := h.form
  have hrow := (hv ▸ h).rows
  obtain ⟨b, off, e, hb, hc⟩ := hrow.2 (by omega)
  have h4 := hc i X 4 X.pv hx rfl
  rcases hr.2 with ⟨_, h0⟩ | ⟨g, cap, cur, e2, hb2, _⟩
  · have h1 : fs.length = 0 := h0
    omega
  · rw [e2] at hv
    injection hv with e3 e4 e5
    subst e
    injection e3 with e3
    injection e3 with e6 e7
    subst e6 e7
    have hr2 := hr
    rw [e2] at hr2
    refine ⟨g, cap, e2, hb2, ?_, hr2.frozenAt _⟩
    simpa using h4
theorem FamsAt.own_grown {base : Nat} {X : VFam} (h : FamsAt w base fv fs) (hx : X ∈ fs) (hg : w.grownBy w' X.pv.ownBlock) : w'.ownsRow base 68 5 fv fs.length (fs.flatMap famCell) :=
  h.own.kept hg (by
    cases hb : Value.ownBlock _ with
    | none => exact .inl rfl
    | some b => exact .inr (fun e => own_own_ne h.own (h.pts X hx) (by decide) b hb e.symm))
end
end
section
attribute [local go_sem ↓] Go.wp_at_zero Go.wp_at_succ
def orI (x y : Int) : Int := if x ≠ 0 then x else y
/-- cmp.Or of two numbers that the call has just laid. -/
theorem or_any (x y : Int) (w : World) (b : Nat) (hx : w.cell? ⟨b, 0, none⟩ = some (.int .i64 x)) (hy : w.cell? ⟨b, 1, none⟩ = some (.int .i64 y)) :
    Calls Tryz.prog 86 #[.slice (some ⟨b, 0, none⟩) 2 2] w fun e w' => e = .returned (.int .i64 (orI x y)) ∧ w = w' := by
  by_cases h : x = 0
  · subst h
    have HN := Lib.hid (show orI 0 y = y from rfl)
    by_cases k : y = 0
    · subst k
      go_enter Tryz.func86, Tryz.ntmps86
      go_wp2_with fail
      refine wp_loop_rounds 3 ?_
      repeat (rw [rounds_succ]; go_wp2_with fail)
      go_ret
      exact ⟨by first | rfl | exact ret_int HN.out.symm, rfl⟩
    · have hk : (y == 0) = false := by (rw [beq_eq_false_iff_ne]; exact k)
      have hk2 : (y != 0) = true := by rw [bne, hk]; rfl
      go_enter Tryz.func86, Tryz.ntmps86
      go_wp2_with fail
      refine wp_loop_rounds 2 ?_
      repeat (rw [rounds_succ]; go_wp2_with fail)
      go_ret
      exact ⟨by first | rfl | exact ret_int HN.out.symm, rfl⟩
  · have hk : (x == 0) = false := by (rw [beq_eq_false_iff_ne]; exact h)
    have hk2 : (x != 0) = true := by rw [bne, hk]; rfl
    have HN := Lib.hid (show orI x y = x from if_pos h)
    go_enter Tryz.func86, Tryz.ntmps86
    go_wp2_with fail
    refine wp_loop_rounds 1 ?_
    repeat (rw [rounds_succ]; go_wp2_with fail)
    go_ret
    exact ⟨by first | rfl | exact ret_int HN.out.symm, rfl⟩
set_option maxRecDepth 100000 in
set_option maxHeartbeats 1600000 in
theorem labCmp_any (x y a b : ByteArray) (w : World) :
    Calls Tryz.prog 135 #[.agg #[.string x, .string y], .agg #[.string a, .string b]] w fun e w' => e = .returned (.int .i64 (cmpLab (x, y) (a, b))) ∧ Below w.heap.size w w' := by
  have hu : cmpLab (x, y) (a, b) = orI (Lib.compareBytes x.data.toList a.data.toList) (Lib.compareBytes y.data.toList b.data.toList) := rfl
  have HU := Lib.hid hu
  clear hu
  go_enter Tryz.func135, Tryz.ntmps135
  go_wp2_with fail
  have k1 := (Blk.new w 183 #[.string x, .string y]).alloc (.cells #[.string a, .string b] 183)
  have k2 := Blk.new (w.alloc (.cells #[.string x, .string y] 183)) 183 #[.string a, .string b]
  have hbX : Below w.heap.size w ((w.alloc (.cells #[.string x, .string y] 183)).alloc (.cells #[.string a, .string b] 183)) := bl_alloc (bl_alloc (Below.refl _ _) _) _
  have hz : (w.alloc (.cells #[.string x, .string y] 183)).heap.size = w.heap.size + 1 := by simp
  rw [hz] at k2
  have c0 := k1.cell 0; have c1 := k1.cell 1; have d0 := k2.cell 0; have d1 := k2.cell 1
  simp only [List.getElem?_toArray, List.getElem?_cons_zero, List.getElem?_cons_succ] at c0 c1 d0 d1
  have hl1 := k1.lt; have hl2 := k2.lt
  clear k1 k2 hz
  generalize (w.alloc (.cells #[.string x, .string y] 183)).alloc (.cells #[.string a, .string b] 183) = wX at *
  have hS0 : (wX.drew.cell? ⟨w.heap.size, 0, none⟩ = some (.string x) ∧ wX.drew.cell? ⟨w.heap.size, 1, none⟩ = some (.string y) ∧ wX.drew.cell? ⟨w.heap.size + 1, 0, none⟩ = some (.string a) ∧ wX.drew.cell? ⟨w.heap.size + 1, 1, none⟩ = some (.string b)) ∧ Below w.heap.size w wX.drew := ⟨⟨c0, c1, d0, d1⟩, hbX.drew⟩
  go_region_held3 (fun w' => (w'.cell? ⟨w.heap.size, 0, none⟩ = some (.string x) ∧ w'.cell? ⟨w.heap.size, 1, none⟩ = some (.string y) ∧ w'.cell? ⟨w.heap.size + 1, 0, none⟩ = some (.string a) ∧ w'.cell? ⟨w.heap.size + 1, 1, none⟩ = some (.string b)) ∧ Below w.heap.size w w') (first | assumption | exact hS0 | exact ⟨⟨(World.cell?_alloc_lt wX _ ⟨_, _, none⟩ hl1).trans c0, (World.cell?_alloc_lt wX _ ⟨_, _, none⟩ hl1).trans c1, (World.cell?_alloc_lt wX _ ⟨_, _, none⟩ hl2).trans d0, (World.cell?_alloc_lt wX _ ⟨_, _, none⟩ hl2).trans d1⟩, (bl_alloc hbX _).drew⟩) (first
    | (go_at_call 26; refine (Tryz.strings_Compare _ _ _).mono ?_; rintro e w1 ⟨rfl, rfl⟩)
    | (go_at_call 86; refine (or_any (Lib.compareBytes x.data.toList a.data.toList) (Lib.compareBytes y.data.toList b.data.toList) _ _ ((Blk.new wX 3 #[.int .i64 (Lib.compareBytes x.data.toList a.data.toList), .int .i64 (Lib.compareBytes y.data.toList b.data.toList)]).drew.cell 0) ((Blk.new wX 3 #[.int .i64 (Lib.compareBytes x.data.toList a.data.toList), .int .i64 (Lib.compareBytes y.data.toList b.data.toList)]).drew.cell 1)).mono ?_; rintro e w1 ⟨rfl, rfl⟩))
  rename_i hH
  obtain ⟨_, hbZ⟩ := hH
  go_wp2_with fail
  go_ret
  exact ⟨ret_int (by rw [HU.out]), hbZ⟩
theorem row_at {L M : List Lab} {k : Nat} {x y : Lab} (h : L[k]? = some x) (g : M[k]? = some y) : cmpRow (L.drop k) (M.drop k) = if cmpLab x y ≠ 0 then cmpLab x y else cmpRow (L.drop (k + 1)) (M.drop (k + 1)) := by
  rw [drop_at h, drop_at g, cmpRow]
theorem row_more {L M : List Lab} {k : Nat} {x : Lab} (h : L[k]? = some x) (g : M.length ≤ k) : cmpRow (L.drop k) (M.drop k) = 1 := by
  rw [drop_at h, List.drop_of_length_le g, cmpRow]
theorem row_less {L M : List Lab} {k : Nat} {y : Lab} (h : L.length ≤ k) (g : M[k]? = some y) : cmpRow (L.drop k) (M.drop k) = -1 := by
  rw [drop_at g, List.drop_of_length_le h, cmpRow]
theorem row_same {L M : List Lab} {k : Nat} (h : L.length ≤ k) (g : M.length ≤ k) : cmpRow (L.drop k) (M.drop k) = 0 := by
  rw [List.drop_of_length_le h, List.drop_of_length_le g, cmpRow]
set_option maxRecDepth 100000 in
set_option maxHeartbeats 1600000 in
theorem compareFunc_any (A : Option Addr) (n cap : Nat) (L : List Lab) (A2 : Option Addr) (n2 cap2 : Nat) (M : List Lab) (w : World) (hl : IsRows labCell 2 w w.heap.size A n L) (hn : n ≤ 4611686018427387904) (hm : IsRows labCell 2 w w.heap.size A2 n2 M) (hn2 : n2 ≤ 4611686018427387904) :
    Calls Tryz.prog 134 #[.slice A n cap, .slice A2 n2 cap2, .func (.func 135) #[] #[]] w fun e w' => e = .returned (.int .i64 (cmpRow L M)) ∧ Below w.heap.size w w' := by
  have hll := hl.1
  have hmm := hm.1
  go_enter Tryz.func134, Tryz.ntmps134
  go_wp2_with fail
  go_loopw [13] (fun i wr => Below w.heap.size w wr ∧ ∃ k : Nat, k ≤ n ∧ k ≤ n2 ∧ i = .int .i64 k ∧ Hid (cmpRow L M = cmpRow (L.drop k) (M.drop k))) (fun i _ => n - (intOf i).toNat)
  case atStart => exact ⟨Below.refl _ _, 0, by omega, by omega, rfl, Lib.hid rfl⟩
  case round =>
    obtain ⟨hbw, k, hk, hk2, rfl, HG⟩ := hrel
    have hwr := hbw.size
    by_cases hlt : k < n
    · have hdk : decide ((k : Int) < n) = true := decide_eq_true (by omega)
      have hk0 : (0 : Int) ≤ k := by omega
      have hk1 : (k : Int) < n := by omega
      obtain ⟨b, off, x, y, rfl, hgb, hx, e0, e1⟩ := lab_at (hl.below hbw) hlt
      have hgw := Nat.lt_of_lt_of_le hgb hbw.size
      by_cases hlt2 : k < n2
      · have hdk2 : decide ((n2 : Int) ≤ k) = false := decide_eq_false (by omega)
        have hk3 : (k : Int) < n2 := by omega
        obtain ⟨b2, off2, x2, y2, rfl, hgb2, hx2, d0, d1⟩ := lab_at (hm.below hbw) hlt2
        have hgw2 := Nat.lt_of_lt_of_le hgb2 hbw.size
        have HR := Lib.hid (HG.out.trans (row_at hx hx2))
        have hcp := fun W => labCmp_any x y x2 y2 W
        have hcb := cmpLab_bd (x, y) (x2, y2)
        generalize cmpLab (x, y) (x2, y2) = c at hcp HR hcb
        clear HG
        cases hc : (c == 0)
        · have hc2 : (c != 0) = true := by rw [bne, hc]; rfl
          have HF : Hid (cmpRow L M = c) := Lib.hid (by rw [HR.out, if_pos (by simpa using hc)])
          clear HR
          go_wp2_with (go_at_call 135; refine (hcp _).mono ?_; rintro e w1 ⟨rfl, hb1⟩)
          go_ret
          exact ⟨ret_int HF.out.symm, bl_any (bl_alloc (bl_alloc hbw _) _) hb1⟩
        · have hc2 : (c != 0) = false := by rw [bne, hc]; rfl
          have HF : Hid (cmpRow L M = cmpRow (L.drop (k + 1)) (M.drop (k + 1))) := Lib.hid (by rw [HR.out, if_neg (by simpa using hc)])
          clear HR
          go_wp2_with (go_at_call 135; refine (hcp _).mono ?_; rintro e w1 ⟨rfl, hb1⟩)
          exact ⟨⟨bl_any (bl_alloc (bl_alloc hbw _) _) hb1, k + 1, by omega, by omega, rfl, HF⟩, by (simp only [intOf]; omega)⟩
      · have hdk2 : decide ((n2 : Int) ≤ k) = true := decide_eq_true (by omega)
        have HF := Lib.hid (HG.out.trans (row_more hx (by omega)))
        clear HG
        go_wp2_with fail
        go_ret
        exact ⟨ret_int HF.out.symm, bl_alloc hbw _⟩
    · have hdk : decide ((k : Int) < n) = false := decide_eq_false (by omega)
      obtain rfl : k = n := by omega
      by_cases hlt2 : k < n2
      · have hdk2 : decide ((k : Int) < n2) = true := decide_eq_true (by omega)
        obtain ⟨z, hz⟩ : ∃ z, M[k]? = some z := ⟨_, List.getElem?_eq_getElem (by omega)⟩
        have HF := Lib.hid (HG.out.trans (row_less (by omega) hz))
        clear HG
        go_wp2_with fail
        go_ret
        exact ⟨ret_int HF.out.symm, hbw⟩
      · have hdk2 : decide ((k : Int) < n2) = false := decide_eq_false (by omega)
        have HF := Lib.hid (HG.out.trans (row_same (by omega) (by omega)))
        clear HG
        go_wp2_with fail
        go_ret
        exact ⟨ret_int HF.out.symm, hbw⟩
theorem labCompare_any (A : Option Addr) (n cap : Nat) (L : List Lab) (A2 : Option Addr) (n2 cap2 : Nat) (M : List Lab) (w : World) (hl : IsRows labCell 2 w w.heap.size A n L) (hn : n ≤ 4611686018427387904) (hm : IsRows labCell 2 w w.heap.size A2 n2 M) (hn2 : n2 ≤ 4611686018427387904) :
    Calls Tryz.prog 87 #[.slice A n cap, .slice A2 n2 cap2] w fun e w' => e = .returned (.int .i64 (cmpRow L M)) ∧ Below w.heap.size w w' := by
  go_enter Tryz.func87, Tryz.ntmps87
  go_wp2_with (go_at_call 134; refine (compareFunc_any A n cap L A2 n2 cap2 M _ hl hn hm hn2).mono ?_; rintro e w1 ⟨rfl, hb1⟩)
  go_ret
  exact ⟨rfl, hb1⟩
/-! ### the reference's -/
theorem rlText_any (x y : ByteArray) (w : World) :
    Calls Tryz.prog 208 #[.string x, .string y] w fun e w' => e = .returned (.int .i64 (Lib.compareBytes x.data.toList y.data.toList)) ∧ w = w' := by
  have h3 := cmpB_tri x.data.toList y.data.toList
  rcases bs3 x.data.toList y.data.toList with k | k | k
  · have HV := Lib.hid (h3.1 k)
    have h1 : Op.bytesLess x.toList y.toList = true := by (rw [bytesLess_eq, ByteArray.toList_eq, ByteArray.toList_eq]; exact decide_eq_true k)
    clear h3 k
    go_enter Tryz.func208, Tryz.ntmps208
    go_wp2_with fail
    go_ret
    exact ⟨ret_int HV.out.symm, rfl⟩
  · have HV := Lib.hid (h3.2.1 k)
    have h1 : Op.bytesLess x.toList y.toList = false := by (rw [bytesLess_eq, ByteArray.toList_eq, ByteArray.toList_eq]; exact decide_eq_false (by rw [k]; exact List.lt_irrefl _))
    have h2 : (x.toList == y.toList) = true := by (rw [ByteArray.toList_eq, ByteArray.toList_eq, beq_iff_eq]; exact k)
    clear h3 k
    go_enter Tryz.func208, Tryz.ntmps208
    go_wp2_with fail
    go_ret
    exact ⟨ret_int HV.out.symm, rfl⟩
  · have HV := Lib.hid (h3.2.2 k)
    have h1 : Op.bytesLess x.toList y.toList = false := by (rw [bytesLess_eq, ByteArray.toList_eq, ByteArray.toList_eq]; exact decide_eq_false (List.not_lt.2 (List.le_of_lt k)))
    have h2 : (x.toList == y.toList) = false := by (rw [ByteArray.toList_eq, ByteArray.toList_eq, beq_eq_false_iff_ne]; intro h; rw [h] at k; exact List.lt_irrefl _ k)
    clear h3 k
    go_enter Tryz.func208, Tryz.ntmps208
    go_wp2_with fail
    go_ret
    exact ⟨ret_int HV.out.symm, rfl⟩
def numB (a b : Int) : Int := if a < b then -1 else if b < a then 1 else 0
theorem rlNumber_any (a b : Int) (w : World) :
    Calls Tryz.prog 167 #[.int .i64 a, .int .i64 b] w fun e w' => e = .returned (.int .i64 (numB a b)) ∧ w = w' := by
  by_cases h : a < b
  · have HV : Hid (numB a b = -1) := Lib.hid (if_pos h)
    go_enter Tryz.func167, Tryz.ntmps167
    go_wp2_with fail
    go_ret
    exact ⟨ret_int HV.out.symm, rfl⟩
  · by_cases k : b < a
    · have HV : Hid (numB a b = 1) := Lib.hid (by unfold numB; rw [if_neg h, if_pos k])
      go_enter Tryz.func167, Tryz.ntmps167
      go_wp2_with fail
      go_ret
      exact ⟨ret_int HV.out.symm, rfl⟩
    · have HV : Hid (numB a b = 0) := Lib.hid (by unfold numB; rw [if_neg h, if_neg k])
      go_enter Tryz.func167, Tryz.ntmps167
      go_wp2_with fail
      go_ret
      exact ⟨ret_int HV.out.symm, rfl⟩
theorem row_end {L M : List Lab} {k : Nat} (h : L.length ≤ k ∨ M.length ≤ k) (g : k ≤ L.length) (g2 : k ≤ M.length) : cmpRow (L.drop k) (M.drop k) = numB L.length M.length := by
  unfold numB
  by_cases h1 : L.length ≤ k
  · by_cases h2 : M.length ≤ k
    · rw [row_same h1 h2, if_neg (by omega), if_neg (by omega)]
    · rw [row_less h1 (List.getElem?_eq_getElem (by omega)), if_pos (by omega)]
  · rw [row_more (List.getElem?_eq_getElem (by omega)) (by omega), if_neg (by omega), if_pos (by omega)]
set_option maxRecDepth 100000 in
set_option maxHeartbeats 1600000 in
theorem refCompare_any (A : Option Addr) (n cap : Nat) (L : List Lab) (A2 : Option Addr) (n2 cap2 : Nat) (M : List Lab) (w : World) (hl : IsRows labCell 2 w w.heap.size A n L) (hn : n ≤ 4611686018427387904) (hm : IsRows labCell 2 w w.heap.size A2 n2 M) (hn2 : n2 ≤ 4611686018427387904) :
    Calls Tryz.prog 165 #[.slice A n cap, .slice A2 n2 cap2] w fun e w' => e = .returned (.int .i64 (cmpRow L M)) ∧ Below w.heap.size w w' := by
  have hll := hl.1
  have hmm := hm.1
  go_enter Tryz.func165, Tryz.ntmps165
  go_wp2_with fail
  go_loopw [5] (fun i wr => Below w.heap.size w wr ∧ ∃ k : Nat, k ≤ n ∧ k ≤ n2 ∧ i = .int .i64 k ∧ Hid (cmpRow L M = cmpRow (L.drop k) (M.drop k))) (fun i _ => n - (intOf i).toNat)
  case atStart => exact ⟨Below.refl _ _, 0, by omega, by omega, rfl, Lib.hid rfl⟩
  case round =>
    obtain ⟨hbw, k, hk, hk2, rfl, HG⟩ := hrel
    have hwr := hbw.size
    have hk0 : (0 : Int) ≤ k := by omega
    by_cases hlt : k < n ∧ k < n2
    · obtain ⟨hlt, hlt2⟩ := hlt
      have hdk : decide ((k : Int) < n) = true := decide_eq_true (by omega)
      have hdk2 : decide ((k : Int) < n2) = true := decide_eq_true (by omega)
      have hk1 : (k : Int) < n := by omega
      have hk3 : (k : Int) < n2 := by omega
      obtain ⟨b, off, x, y, rfl, hgb, hx, e0, e1⟩ := lab_at (hl.below hbw) hlt
      obtain ⟨b2, off2, x2, y2, rfl, hgb2, hx2, d0, d1⟩ := lab_at (hm.below hbw) hlt2
      have HR := Lib.hid (HG.out.trans (row_at hx hx2))
      have hu : cmpLab (x, y) (x2, y2) = if Lib.compareBytes x.data.toList x2.data.toList ≠ 0 then Lib.compareBytes x.data.toList x2.data.toList else Lib.compareBytes y.data.toList y2.data.toList := rfl
      have HU := Lib.hid hu
      clear hu HG
      have t1 := fun W => rlText_any x x2 W
      have t2 := fun W => rlText_any y y2 W
      generalize Lib.compareBytes x.data.toList x2.data.toList = c1 at t1 HU
      generalize Lib.compareBytes y.data.toList y2.data.toList = c2 at t2 HU
      cases hc : (c1 == 0)
      · have hc2 : (c1 != 0) = true := by rw [bne, hc]; rfl
        have HF : Hid (cmpRow L M = c1) := Lib.hid (by have h : c1 ≠ 0 := (by simpa using hc); rw [HR.out, HU.out, if_pos h, if_pos h])
        clear HR HU
        go_wp2_with fail
        go_quiet ((go_at_call 208; exact quiet_left (t1 _)))
        go_wp2_with fail
        go_ret
        exact ⟨ret_int HF.out.symm, bl_drewN hbw _⟩
      · have hc2 : (c1 != 0) = false := by rw [bne, hc]; rfl
        cases hd : (c2 == 0)
        · have hd2 : (c2 != 0) = true := by rw [bne, hd]; rfl
          have HF : Hid (cmpRow L M = c2) := Lib.hid (by have h : c2 ≠ 0 := (by simpa using hd); have h0 : ¬ c1 ≠ 0 := (by simpa using hc); rw [HR.out, HU.out, if_neg h0, if_pos h])
          clear HR HU
          go_wp2_with fail
          go_quiet ((go_at_call 208; exact quiet_left (t1 _)))
          go_wp2_with fail
          go_quiet ((go_at_call 208; exact quiet_add_left (t2 _)))
          go_wp2_with fail
          go_ret
          exact ⟨ret_int HF.out.symm, bl_drewN hbw _⟩
        · have hd2 : (c2 != 0) = false := by rw [bne, hd]; rfl
          have HF : Hid (cmpRow L M = cmpRow (L.drop (k + 1)) (M.drop (k + 1))) := Lib.hid (by have h : ¬ c2 ≠ 0 := (by simpa using hd); have h0 : ¬ c1 ≠ 0 := (by simpa using hc); rw [HR.out, HU.out, if_neg h0, if_neg h])
          clear HR HU
          go_wp2_with fail
          go_quiet ((go_at_call 208; exact quiet_left (t1 _)))
          go_wp2_with fail
          go_quiet ((go_at_call 208; exact quiet_add_left (t2 _)))
          go_wp2_with fail
          exact ⟨⟨bl_drewN hbw _, k + 1, by omega, by omega, rfl, HF⟩, by (simp only [intOf]; omega)⟩
    · have HF : Hid (cmpRow L M = numB n n2) := Lib.hid (by have := HG.out.trans (row_end (L := L) (M := M) (k := k) (by omega) (by omega) (by omega)); rw [hll, hmm] at this; exact this)
      clear HG
      have hnum := fun W => rlNumber_any n n2 W
      by_cases hlt1 : k < n
      · have hdk : decide ((k : Int) < n) = true := decide_eq_true (by omega)
        have hdk2 : decide ((k : Int) < n2) = false := decide_eq_false (by omega)
        go_wp2_with (go_at_call 167; refine (hnum _).mono ?_; rintro e w1 ⟨rfl, rfl⟩)
        go_ret
        exact ⟨ret_int HF.out.symm, hbw⟩
      · have hdk : decide ((k : Int) < n) = false := decide_eq_false (by omega)
        go_wp2_with (go_at_call 167; refine (hnum _).mono ?_; rintro e w1 ⟨rfl, rfl⟩)
        go_ret
        exact ⟨ret_int HF.out.symm, hbw⟩
def sameB (L M : List Lab) : Bool := decide (cmpRow L M = 0)
theorem sameB_iff (L M : List Lab) : sameB L M = true ↔ L = M := by
  unfold sameB; rw [decide_eq_true_eq, cmpRow_zero]
end
section
theorem bools_any (a b : Bool) (w : World) : Calls Tryz.prog 88 #[.bool a, .bool b] w fun e w' => e = .returned (.int .i64 (bB a b)) ∧ w' = w := by
  cases a <;> cases b
  all_goals
    go_enter Tryz.func88, Tryz.ntmps88
    go_wp2_with fail
    go_ret
    exact ⟨rfl, rfl⟩
theorem nan_any (a : Int) (w : World) : Calls Tryz.prog 137 #[.int .i64 a] w fun e w' => e = .returned (.bool false) ∧ w' = w := by
  have h : (a != a) = false := by simp
  go_enter Tryz.func137, Tryz.ntmps137
  go_wp2_with fail
  go_ret
  exact ⟨rfl, rfl⟩
theorem nan64_any (a : Int) (w : World) : Calls Tryz.prog 136 #[.int .i64 a] w fun e w' => e = .returned (.bool false) ∧ w' = w := by
  have h : (a != a) = false := by simp
  go_enter Tryz.func136, Tryz.ntmps136
  go_wp2_with fail
  go_ret
  exact ⟨rfl, rfl⟩
theorem ncmp_any (a b : Int) (w : World) : Calls Tryz.prog 90 #[.int .i64 a, .int .i64 b] w fun e w' => e = .returned (.int .i64 (nB a b)) ∧ w' = w := by
  have k := fun x W => nan_any x W
  obtain ⟨R, hR⟩ : ∃ R, nB a b = R := ⟨_, rfl⟩
  rw [hR]
  unfold nB at hR
  by_cases h1 : a < b
  · rw [if_pos h1] at hR
    have d1 : decide (a < b) = true := decide_eq_true h1
    subst hR
    clear h1
    go_enter Tryz.func90, Tryz.ntmps90
    go_wp2_with (first | (go_at_call 137; (with_reducible refine (k _ _).mono ?_); rintro e w1 ⟨rfl, rfl⟩) | (go_at_call 136; (with_reducible refine (k _ _).mono ?_); rintro e w1 ⟨rfl, rfl⟩))
    go_ret
    exact ⟨rfl, rfl⟩
  · rw [if_neg h1] at hR
    have d1 : decide (a < b) = false := decide_eq_false h1
    clear h1
    by_cases h2 : b < a
    · rw [if_pos h2] at hR
      have d2 : decide (b < a) = true := decide_eq_true h2
      subst hR
      clear h2
      go_enter Tryz.func90, Tryz.ntmps90
      go_wp2_with (first | (go_at_call 137; (with_reducible refine (k _ _).mono ?_); rintro e w1 ⟨rfl, rfl⟩) | (go_at_call 136; (with_reducible refine (k _ _).mono ?_); rintro e w1 ⟨rfl, rfl⟩))
      go_ret
      exact ⟨rfl, rfl⟩
    · rw [if_neg h2] at hR
      have d2 : decide (b < a) = false := decide_eq_false h2
      subst hR
      clear h2
      go_enter Tryz.func90, Tryz.ntmps90
      go_wp2_with (first | (go_at_call 137; (with_reducible refine (k _ _).mono ?_); rintro e w1 ⟨rfl, rfl⟩) | (go_at_call 136; (with_reducible refine (k _ _).mono ?_); rintro e w1 ⟨rfl, rfl⟩))
      go_ret
      exact ⟨rfl, rfl⟩
theorem ncmp64_any (a b : Int) (w : World) : Calls Tryz.prog 89 #[.int .i64 a, .int .i64 b] w fun e w' => e = .returned (.int .i64 (nB a b)) ∧ w' = w := by
  have k := fun x W => nan64_any x W
  obtain ⟨R, hR⟩ : ∃ R, nB a b = R := ⟨_, rfl⟩
  rw [hR]
  unfold nB at hR
  by_cases h1 : a < b
  · rw [if_pos h1] at hR
    have d1 : decide (a < b) = true := decide_eq_true h1
    subst hR
    clear h1
    go_enter Tryz.func89, Tryz.ntmps89
    go_wp2_with (first | (go_at_call 137; (with_reducible refine (k _ _).mono ?_); rintro e w1 ⟨rfl, rfl⟩) | (go_at_call 136; (with_reducible refine (k _ _).mono ?_); rintro e w1 ⟨rfl, rfl⟩))
    go_ret
    exact ⟨rfl, rfl⟩
  · rw [if_neg h1] at hR
    have d1 : decide (a < b) = false := decide_eq_false h1
    clear h1
    by_cases h2 : b < a
    · rw [if_pos h2] at hR
      have d2 : decide (b < a) = true := decide_eq_true h2
      subst hR
      clear h2
      go_enter Tryz.func89, Tryz.ntmps89
      go_wp2_with (first | (go_at_call 137; (with_reducible refine (k _ _).mono ?_); rintro e w1 ⟨rfl, rfl⟩) | (go_at_call 136; (with_reducible refine (k _ _).mono ?_); rintro e w1 ⟨rfl, rfl⟩))
      go_ret
      exact ⟨rfl, rfl⟩
    · rw [if_neg h2] at hR
      have d2 : decide (b < a) = false := decide_eq_false h2
      subst hR
      clear h2
      go_enter Tryz.func89, Tryz.ntmps89
      go_wp2_with (first | (go_at_call 137; (with_reducible refine (k _ _).mono ?_); rintro e w1 ⟨rfl, rfl⟩) | (go_at_call 136; (with_reducible refine (k _ _).mono ?_); rintro e w1 ⟨rfl, rfl⟩))
      go_ret
      exact ⟨rfl, rfl⟩
/-! ### cmp.Or of numbers that lie in a block -/
def numCell (x : Int) : List Value := [.int .i64 x]
set_option maxHeartbeats 1600000 in
theorem orn_any (b n B : Nat) (xs : List Int) (w : World) (hl : IsRows numCell 1 w B (some ⟨b, 0, none⟩) n xs) (hn : n ≤ 1048576) :
    Calls Tryz.prog 86 #[.slice (some ⟨b, 0, none⟩) n n] w fun e w' => e = .returned (.int .i64 (orL xs)) ∧ w' = w := by
  have hll := hl.1
  obtain ⟨R, hR⟩ : ∃ R, orL xs = R := ⟨_, rfl⟩
  rw [hR]
  have H0 : Hid (orL (xs.drop 0) = R) := Lib.hid (by rw [List.drop_zero]; exact hR)
  clear hR
  go_enter Tryz.func86, Tryz.ntmps86
  go_wp2_with fail
  go_loop [8] (fun i => ∃ k : Nat, k ≤ n ∧ i = .int .i64 k ∧ Hid (orL (xs.drop k) = R)) (fun i => n - (intOf i).toNat)
  case atStart => exact ⟨0, by omega, rfl, H0⟩
  case round =>
    obtain ⟨k, hk, rfl, HG⟩ := hrel
    clear H0
    have hG := HG.out
    clear HG
    by_cases hlt : k < n
    · have hd : decide ((k : Int) < n) = true := decide_eq_true (by omega)
      have hk0 : (0 : Int) ≤ k := by omega
      have hk1 : (k : Int) < n := by omega
      obtain ⟨b', off, e1, hb, hcs⟩ := hl.2 (by omega)
      injection e1 with e1
      injection e1 with e1 e2
      subst e1 e2
      obtain ⟨X, hX⟩ : ∃ X, xs[k]? = some X := ⟨_, List.getElem?_eq_getElem (by omega)⟩
      have q0 : w.cell? ⟨b, k, none⟩ = some (.int .i64 X) := by have := hcs k X 0 _ hX rfl; simpa using this
      rw [drop_at hX, orL] at hG
      clear hcs hX
      by_cases h0 : X = 0
      · rw [if_neg (by simp [h0])] at hG
        have d0 : (X != 0) = false := by simp [h0]
        have HN := Lib.hid hG
        clear h0 hG
        go_wp2_with fail
        exact ⟨⟨k + 1, by omega, rfl, HN⟩, by (simp only [intOf]; omega)⟩
      · rw [if_pos h0] at hG
        have d0 : (X != 0) = true := by simp [h0]
        subst hG
        clear h0
        go_wp2_with fail
        go_ret
        exact ⟨rfl, rfl⟩
    · have hd : decide ((k : Int) < n) = false := decide_eq_false (by omega)
      rw [List.drop_of_length_le (by omega), orL] at hG
      subst hG
      go_wp2_with fail
      go_ret
      exact ⟨rfl, rfl⟩
theorem orn_new (x1 x2 x3 x4 x5 x6 : Int) (W : World) :
    Calls Tryz.prog 86 #[.slice (some ⟨W.heap.size, 0, none⟩) 6 6] (W.alloc (.cells #[.int .i64 x1, .int .i64 x2, .int .i64 x3, .int .i64 x4, .int .i64 x5, .int .i64 x6] 3)) fun e w' => e = .returned (.int .i64 (orL [x1, x2, x3, x4, x5, x6])) ∧ w' = W.alloc (.cells #[.int .i64 x1, .int .i64 x2, .int .i64 x3, .int .i64 x4, .int .i64 x5, .int .i64 x6] 3) := by
  have hb := Blk.new W 3 #[.int .i64 x1, .int .i64 x2, .int .i64 x3, .int .i64 x4, .int .i64 x5, .int .i64 x6]
  exact orn_any W.heap.size 6 (W.heap.size + 1) [x1, x2, x3, x4, x5, x6] _ ⟨rfl, fun _ => ⟨W.heap.size, 0, rfl, by omega, fun i x j u hx hu => by
    have hj : j = 0 := by
      have := (List.getElem?_eq_some_iff.1 hu).1
      simpa [numCell] using this
    subst hj
    simp [numCell] at hu
    subst hu
    have hi := (List.getElem?_eq_some_iff.1 hx).1
    have e : (0 + (i * 1 + 0)) = i := by omega
    rw [e, Blk.cell hb]
    have h6 : i = 0 ∨ i = 1 ∨ i = 2 ∨ i = 3 ∨ i = 4 ∨ i = 5 := by simp at hi; omega
    rcases h6 with rfl | rfl | rfl | rfl | rfl | rfl <;> (simp at hx; subst hx; rfl)⟩⟩ (by decide)
/-! ### point.Compare -/
def pArgs (p : VPnt) : Array Value := #[.slice p.A p.pt.labels.length p.c, .int .i64 (p.pt.role : Int), .bool p.pt.inf, .int .i64 p.pt.bM, .int .i64 (p.pt.bS : Int), .int .i64 p.pt.vM, .int .i64 (p.pt.vS : Int), .bool p.pt.timed, .int .i64 p.pt.time]
structure PntOk (p : MPnt) : Prop where
  bm : -9223372036854775808 ≤ p.bM ∧ p.bM ≤ 9223372036854775807
  len : p.labels.length ≤ 1048576
structure PS (w0 w : World) (t2 t3 : Nat) (p q : VPnt) : Prop where
  b2 : Blk w t2 73 #[.slice p.A p.pt.labels.length p.c, .int .i64 (p.pt.role : Int), .bool p.pt.inf, .int .i64 p.pt.bM, .int .i64 (p.pt.bS : Int), .int .i64 p.pt.vM, .int .i64 (p.pt.vS : Int), .bool p.pt.timed, .int .i64 p.pt.time]
  b3 : Blk w t3 73 #[.slice q.A q.pt.labels.length q.c, .int .i64 (q.pt.role : Int), .bool q.pt.inf, .int .i64 q.pt.bM, .int .i64 (q.pt.bS : Int), .int .i64 q.pt.vM, .int .i64 (q.pt.vS : Int), .bool q.pt.timed, .int .i64 q.pt.time]
  lp : IsRows labCell 2 w w0.heap.size p.A p.pt.labels.length p.pt.labels
  lq : IsRows labCell 2 w w0.heap.size q.A q.pt.labels.length q.pt.labels
  aw : Aw [] w0 w
abbrev PF (w : World) (t : Nat) (p : VPnt) : Prop := w.cell? ⟨t, 0, none⟩ = some (.slice p.A p.pt.labels.length p.c) ∧ w.cell? ⟨t, 1, none⟩ = some (.int .i64 (p.pt.role : Int)) ∧ w.cell? ⟨t, 2, none⟩ = some (.bool p.pt.inf) ∧ w.cell? ⟨t, 3, none⟩ = some (.int .i64 p.pt.bM) ∧ w.cell? ⟨t, 4, none⟩ = some (.int .i64 (p.pt.bS : Int)) ∧ w.cell? ⟨t, 7, none⟩ = some (.bool p.pt.timed) ∧ w.cell? ⟨t, 8, none⟩ = some (.int .i64 p.pt.time)
section
variable {w0 w w' : World} {t2 t3 : Nat} {p q : VPnt}
theorem PS.call (h : PS w0 w t2 t3 p q) (a : Aw [] w w') : PS w0 w' t2 t3 p q :=
  ⟨Blk.aw h.b2 a (by simp), Blk.aw h.b3 a (by simp), h.lp.aw a h.aw.size (by simp), h.lq.aw a h.aw.size (by simp), h.aw.trans a⟩
theorem PS.drew (h : PS w0 w t2 t3 p q) : PS w0 w.drew t2 t3 p q := h.call (Aw.refl [] w).drew
theorem PS.alloc (h : PS w0 w t2 t3 p q) (o : Obj) : PS w0 (w.alloc o) t2 t3 p q := h.call ((Aw.refl [] w).alloc o)
theorem PS.fs (h : PS w0 w t2 t3 p q) : (PF w t2 p ∧ PF w t3 q) ∧ PS w0 w t2 t3 p q :=
  ⟨⟨⟨(Blk.cell h.b2 0).trans rfl, (Blk.cell h.b2 1).trans rfl, (Blk.cell h.b2 2).trans rfl, (Blk.cell h.b2 3).trans rfl, (Blk.cell h.b2 4).trans rfl, (Blk.cell h.b2 7).trans rfl, (Blk.cell h.b2 8).trans rfl⟩, ⟨(Blk.cell h.b3 0).trans rfl, (Blk.cell h.b3 1).trans rfl, (Blk.cell h.b3 2).trans rfl, (Blk.cell h.b3 3).trans rfl, (Blk.cell h.b3 4).trans rfl, (Blk.cell h.b3 7).trans rfl, (Blk.cell h.b3 8).trans rfl⟩⟩, h⟩
end
abbrev PFF (w' : World) (t2 : Nat) (p q : VPnt) : Prop := (w'.cell? ⟨t2, 0, none⟩ = some (.slice p.A p.pt.labels.length p.c) ∧ w'.cell? ⟨t2, 1, none⟩ = some (.int .i64 (p.pt.role : Int)) ∧ w'.cell? ⟨t2, 2, none⟩ = some (.bool p.pt.inf) ∧ w'.cell? ⟨t2, 3, none⟩ = some (.int .i64 p.pt.bM) ∧ w'.cell? ⟨t2, 4, none⟩ = some (.int .i64 (p.pt.bS : Int)) ∧ w'.cell? ⟨t2, 7, none⟩ = some (.bool p.pt.timed) ∧ w'.cell? ⟨t2, 8, none⟩ = some (.int .i64 p.pt.time)) ∧ (w'.cell? ⟨t2 + 1, 0, none⟩ = some (.slice q.A q.pt.labels.length q.c) ∧ w'.cell? ⟨t2 + 1, 1, none⟩ = some (.int .i64 (q.pt.role : Int)) ∧ w'.cell? ⟨t2 + 1, 2, none⟩ = some (.bool q.pt.inf) ∧ w'.cell? ⟨t2 + 1, 3, none⟩ = some (.int .i64 q.pt.bM) ∧ w'.cell? ⟨t2 + 1, 4, none⟩ = some (.int .i64 (q.pt.bS : Int)) ∧ w'.cell? ⟨t2 + 1, 7, none⟩ = some (.bool q.pt.timed) ∧ w'.cell? ⟨t2 + 1, 8, none⟩ = some (.int .i64 q.pt.time))
theorem labc_ps {w w' : World} {t2 : Nat} {p q : VPnt} (hp : PntOk p.pt) (hq : PntOk q.pt) (h : PFF w' t2 p q ∧ PS w w' t2 (t2 + 1) p q) :
    Calls Tryz.prog 87 #[.slice p.A p.pt.labels.length p.c, .slice q.A q.pt.labels.length q.c] w' fun e w2 => e = .returned (.int .i64 (cmpRow p.pt.labels q.pt.labels)) ∧ (PFF w2 t2 p q ∧ PS w w2 t2 (t2 + 1) p q) :=
  (labCompare_any p.A p.pt.labels.length p.c p.pt.labels q.A q.pt.labels.length q.c q.pt.labels w' (h.2.lp.more h.2.aw.size) (by have := hp.len; omega) (h.2.lq.more h.2.aw.size) (by have := hq.len; omega)).mono fun e w2 ⟨h1, h2⟩ => ⟨h1, (h.2.call (Aw.ofBelow h2)).fs⟩
theorem sumc_ps {w w' : World} {t2 : Nat} {p q : VPnt} (hp : PntOk p.pt) (hq : PntOk q.pt) (h : PFF w' t2 p q ∧ PS w w' t2 (t2 + 1) p q) :
    Calls Tryz.prog 91 #[.agg #[.int .i64 p.pt.bM, .int .i64 (p.pt.bS : Int)], .agg #[.int .i64 q.pt.bM, .int .i64 (q.pt.bS : Int)]] w' fun e w2 => e = .returned (.int .i64 (cmpD p.pt.bM (p.pt.bS : Int) q.pt.bM (q.pt.bS : Int))) ∧ (PFF w2 t2 p q ∧ PS w w2 t2 (t2 + 1) p q) :=
  (scompare_any p.pt.bM (p.pt.bS : Int) q.pt.bM (q.pt.bS : Int) hp.bm.1 hp.bm.2 hq.bm.1 hq.bm.2 w').mono fun e w2 ⟨h1, h2⟩ => ⟨h1, (h.2.call h2).fs⟩
set_option maxRecDepth 100000 in
set_option maxHeartbeats 6400000 in
theorem pcompare_any (p q : VPnt) (w : World) (hp : IsRows labCell 2 w w.heap.size p.A p.pt.labels.length p.pt.labels) (hq : IsRows labCell 2 w w.heap.size q.A q.pt.labels.length q.pt.labels) (kp : PntOk p.pt) (kq : PntOk q.pt) :
    Calls Tryz.prog 47 #[.agg #[.slice p.A p.pt.labels.length p.c, .int .i64 (p.pt.role : Int), .bool p.pt.inf, .int .i64 p.pt.bM, .int .i64 (p.pt.bS : Int), .int .i64 p.pt.vM, .int .i64 (p.pt.vS : Int), .bool p.pt.timed, .int .i64 p.pt.time], .agg #[.slice q.A q.pt.labels.length q.c, .int .i64 (q.pt.role : Int), .bool q.pt.inf, .int .i64 q.pt.bM, .int .i64 (q.pt.bS : Int), .int .i64 q.pt.vM, .int .i64 (q.pt.vS : Int), .bool q.pt.timed, .int .i64 q.pt.time]] w fun e w' => e = .returned (.int .i64 (cmpPnt p.pt q.pt)) ∧ Aw [] w w' := by
  have HU : Hid (cmpPnt p.pt q.pt = orL [cmpRow p.pt.labels q.pt.labels, bB p.pt.timed q.pt.timed, nB p.pt.time q.pt.time, nB (p.pt.role : Int) (q.pt.role : Int), bB p.pt.inf q.pt.inf, cmpD p.pt.bM (p.pt.bS : Int) q.pt.bM (q.pt.bS : Int)]) := Lib.hid rfl
  have hz : (w.alloc (.cells (pArgs p) 73)).heap.size = w.heap.size + 1 := by simp
  have hX : PS w ((w.alloc (.cells (pArgs p) 73)).alloc (.cells (pArgs q) 73)) w.heap.size (w.heap.size + 1) p q :=
    ⟨Blk.alloc (Blk.new w 73 (pArgs p)) _, by have := Blk.new (w.alloc (.cells (pArgs p) 73)) 73 (pArgs q); rw [hz] at this; exact this,
      hp.aw (((Aw.refl [] w).alloc _).alloc _) (Nat.le_refl _) (by simp), hq.aw (((Aw.refl [] w).alloc _).alloc _) (Nat.le_refl _) (by simp), ((Aw.refl [] w).alloc _).alloc _⟩
  unfold pArgs at hX
  clear hz hp hq
  go_enter Tryz.func47, Tryz.ntmps47
  go_wp2_with fail
  generalize (w.alloc (.cells #[.slice p.A p.pt.labels.length p.c, .int .i64 (p.pt.role : Int), .bool p.pt.inf, .int .i64 p.pt.bM, .int .i64 (p.pt.bS : Int), .int .i64 p.pt.vM, .int .i64 (p.pt.vS : Int), .bool p.pt.timed, .int .i64 p.pt.time] 73)).alloc (.cells #[.slice q.A q.pt.labels.length q.c, .int .i64 (q.pt.role : Int), .bool q.pt.inf, .int .i64 q.pt.bM, .int .i64 (q.pt.bS : Int), .int .i64 q.pt.vM, .int .i64 (q.pt.vS : Int), .bool q.pt.timed, .int .i64 q.pt.time] 73) = wX at *
  generalize w.heap.size = t2 at *
  clear HU
  have HP := Lib.hid kp
  have HQ := Lib.hid kq
  clear kp kq
  go_region_held3 (fun w' => ((w'.cell? ⟨t2, 0, none⟩ = some (.slice p.A p.pt.labels.length p.c) ∧ w'.cell? ⟨t2, 1, none⟩ = some (.int .i64 (p.pt.role : Int)) ∧ w'.cell? ⟨t2, 2, none⟩ = some (.bool p.pt.inf) ∧ w'.cell? ⟨t2, 3, none⟩ = some (.int .i64 p.pt.bM) ∧ w'.cell? ⟨t2, 4, none⟩ = some (.int .i64 (p.pt.bS : Int)) ∧ w'.cell? ⟨t2, 7, none⟩ = some (.bool p.pt.timed) ∧ w'.cell? ⟨t2, 8, none⟩ = some (.int .i64 p.pt.time)) ∧ (w'.cell? ⟨t2 + 1, 0, none⟩ = some (.slice q.A q.pt.labels.length q.c) ∧ w'.cell? ⟨t2 + 1, 1, none⟩ = some (.int .i64 (q.pt.role : Int)) ∧ w'.cell? ⟨t2 + 1, 2, none⟩ = some (.bool q.pt.inf) ∧ w'.cell? ⟨t2 + 1, 3, none⟩ = some (.int .i64 q.pt.bM) ∧ w'.cell? ⟨t2 + 1, 4, none⟩ = some (.int .i64 (q.pt.bS : Int)) ∧ w'.cell? ⟨t2 + 1, 7, none⟩ = some (.bool q.pt.timed) ∧ w'.cell? ⟨t2 + 1, 8, none⟩ = some (.int .i64 q.pt.time))) ∧ PS w w' t2 (t2 + 1) p q) (first | (with_reducible assumption) | (with_reducible exact hX.drew.fs) | (with_reducible exact (PS.alloc (And.right (by with_reducible assumption)) _).fs)) (first
    | (go_at_call 87; (with_reducible refine (labc_ps HP.out HQ.out (by with_reducible assumption)).mono ?_); rintro e w1 ⟨rfl, hS1⟩)
    | (go_at_call 88; (with_reducible refine (bools_any _ _ _).mono ?_); rintro e w1 ⟨rfl, rfl⟩)
    | (go_at_call 89; (with_reducible refine (ncmp64_any _ _ _).mono ?_); rintro e w1 ⟨rfl, rfl⟩)
    | (go_at_call 90; (with_reducible refine (ncmp_any _ _ _).mono ?_); rintro e w1 ⟨rfl, rfl⟩)
    | (go_at_call 91; (with_reducible refine (sumc_ps HP.out HQ.out (by with_reducible assumption)).mono ?_); rintro e w1 ⟨rfl, hS1⟩)
    | (go_at_call 86; (with_reducible refine (orn_new _ _ _ _ _ _ _).mono ?_); rintro e w1 ⟨rfl, rfl⟩))
  rename_i hH
  obtain ⟨_, hbZ⟩ := hH
  go_wp2_with fail
  go_ret
  exact ⟨rfl, hbZ.aw⟩
end
section
/-- Where the first one stands of which p holds; -1: none. -/
def idxFrom {α : Type} (p : α → Bool) : List α → Nat → Int
  | [], _ => -1
  | x :: xs, k => if p x then (k : Int) else idxFrom p xs (k + 1)
theorem idxFrom_any {α : Type} (p : α → Bool) (xs : List α) (k : Nat) : decide (0 ≤ idxFrom p xs k) = xs.any p := by
  induction xs generalizing k with
  | nil => simp [idxFrom]
  | cons x r ih =>
    rw [idxFrom, List.any_cons]
    cases h : p x
    · rw [if_neg (by simp), ih, Bool.false_or]
    · rw [if_pos rfl, Bool.true_or]; exact decide_eq_true (by omega)
theorem idxFrom_at {α : Type} (p : α → Bool) (xs : List α) (k : Nat) : idxFrom p xs k = if xs.findIdx p < xs.length then ((k + xs.findIdx p : Nat) : Int) else -1 := by
  induction xs generalizing k with
  | nil => simp [idxFrom]
  | cons x r ih =>
    rw [idxFrom, List.findIdx_cons]
    cases h : p x
    · rw [if_neg (by simp), ih]
      simp only [cond_false, List.length_cons, Nat.add_lt_add_iff_right]
      split
      · rw [Nat.add_right_comm, Nat.add_assoc]
      · rfl
    · simp
theorem named_any (cb : Nat) (n : ByteArray) (x : VFam) (w : World) (hc : w.cell? ⟨cb, 0, none⟩ = some (.string n)) : Calls Tryz.prog 170 #[.agg #[.string x.name, .int .i64 (x.kind : Int), .string x.unit, .string x.help, .slice x.A x.pts.length x.c], .pointer (some ⟨cb, 0, none⟩)] w fun e w' => e = .returned (.bool (x.name.data.toList == n.data.toList)) ∧ Aw [] w w' := by
  have hq : w.cell? ⟨cb, 0, none⟩ = some (.string n) := hc
  have hA := (Aw.refl [] w).alloc (.cells #[.string x.name, .int .i64 (x.kind : Int), .string x.unit, .string x.help, .slice x.A x.pts.length x.c] 68)
  have hb := Blk.new w 68 #[.string x.name, .int .i64 (x.kind : Int), .string x.unit, .string x.help, .slice x.A x.pts.length x.c]
  have c0 := (Blk.cell hb 0).trans rfl
  have c1 := (World.cell?_alloc_lt w (.cells #[.string x.name, .int .i64 (x.kind : Int), .string x.unit, .string x.help, .slice x.A x.pts.length x.c] 68) ⟨cb, 0, none⟩ (lt_of_cell hq)).trans hq
  cases hb : x.name.data.toList == n.data.toList
  all_goals
    go_enter Tryz.func170, Tryz.ntmps170
    go_wp2_with fail
    go_ret
    exact ⟨ret_bool (by first | exact hb | (rw [ByteArray.toList_eq, ByteArray.toList_eq]; exact hb) | (rw [ByteArray.toList_eq, ByteArray.toList_eq]; exact hb.symm) | exact (hb.symm)), hA⟩
set_option maxHeartbeats 1600000 in
theorem same_any (cb : Nat) (p x : VPnt) (w : World) (hc : Blk w cb 73 #[.slice p.A p.pt.labels.length p.c, .int .i64 (p.pt.role : Int), .bool p.pt.inf, .int .i64 p.pt.bM, .int .i64 (p.pt.bS : Int), .int .i64 p.pt.vM, .int .i64 (p.pt.vS : Int), .bool p.pt.timed, .int .i64 p.pt.time])
    (hp : IsRows labCell 2 w w.heap.size p.A p.pt.labels.length p.pt.labels) (hq : IsRows labCell 2 w w.heap.size x.A x.pt.labels.length x.pt.labels) (kp : PntOk p.pt) (kq : PntOk x.pt) :
    Calls Tryz.prog 80 #[.agg #[.slice x.A x.pt.labels.length x.c, .int .i64 (x.pt.role : Int), .bool x.pt.inf, .int .i64 x.pt.bM, .int .i64 (x.pt.bS : Int), .int .i64 x.pt.vM, .int .i64 (x.pt.vS : Int), .bool x.pt.timed, .int .i64 x.pt.time], .pointer (some ⟨cb, 0, none⟩)] w fun e w' => e = .returned (.bool (samePnt p.pt x.pt)) ∧ Aw [] w w' := by
  have hA := (Aw.refl [] w).alloc (.cells #[.slice x.A x.pt.labels.length x.c, .int .i64 (x.pt.role : Int), .bool x.pt.inf, .int .i64 x.pt.bM, .int .i64 (x.pt.bS : Int), .int .i64 x.pt.vM, .int .i64 (x.pt.vS : Int), .bool x.pt.timed, .int .i64 x.pt.time] 73)
  have kC := pcompare_any p x _ ((hp.aw hA (Nat.le_refl _) (by simp)).more hA.size) ((hq.aw hA (Nat.le_refl _) (by simp)).more hA.size) kp kq
  have hc1 := Blk.aw hc hA (by simp)
  have hn := Blk.new w 73 #[.slice x.A x.pt.labels.length x.c, .int .i64 (x.pt.role : Int), .bool x.pt.inf, .int .i64 x.pt.bM, .int .i64 (x.pt.bS : Int), .int .i64 x.pt.vM, .int .i64 (x.pt.vS : Int), .bool x.pt.timed, .int .i64 x.pt.time]
  have e0 := (Blk.cell hc1 0).trans rfl; have e1 := (Blk.cell hc1 1).trans rfl; have e2 := (Blk.cell hc1 2).trans rfl; have e3 := (Blk.cell hc1 3).trans rfl; have e4 := (Blk.cell hc1 4).trans rfl; have e5 := (Blk.cell hc1 5).trans rfl; have e6 := (Blk.cell hc1 6).trans rfl; have e7 := (Blk.cell hc1 7).trans rfl; have e8 := (Blk.cell hc1 8).trans rfl
  have c0 := (Blk.cell hn 0).trans rfl; have c1 := (Blk.cell hn 1).trans rfl; have c2 := (Blk.cell hn 2).trans rfl; have c3 := (Blk.cell hn 3).trans rfl; have c4 := (Blk.cell hn 4).trans rfl; have c5 := (Blk.cell hn 5).trans rfl; have c6 := (Blk.cell hn 6).trans rfl; have c7 := (Blk.cell hn 7).trans rfl; have c8 := (Blk.cell hn 8).trans rfl
  have HB : Hid (samePnt p.pt x.pt = (cmpPnt p.pt x.pt == 0)) := Lib.hid (by unfold samePnt; rfl)
  generalize cmpPnt p.pt x.pt = C at *
  generalize samePnt p.pt x.pt = D at *
  clear hc hp hq kp kq
  cases hb : C == 0
  all_goals
    go_enter Tryz.func80, Tryz.ntmps80
    go_wp2_with (go_at_call 47; (with_reducible refine kC.mono ?_); rintro e w1 ⟨rfl, hA1⟩)
    go_ret
    exact ⟨ret_bool (by rw [HB.out, hb]), hA.trans hA1⟩
set_option maxHeartbeats 3200000 in
theorem idxF_any (cb : Nat) (A : Option Addr) (n cap B : Nat) (xs : List VFam) (p : VFam → Bool) (w : World) (hl : IsRows famCell 5 w B A n xs) (hB : B ≤ w.heap.size) (hn : n ≤ 2097152)
    (hp : ∀ x ∈ xs, ∀ W, Aw [] w W → Calls Tryz.prog 170 #[.agg #[.string x.name, .int .i64 (x.kind : Int), .string x.unit, .string x.help, .slice x.A x.pts.length x.c], .pointer (some ⟨cb, 0, none⟩)] W fun e w' => e = .returned (.bool (p x)) ∧ Aw [] W w') :
    Calls Tryz.prog 209 #[.slice A n cap, .func (.func 170) #[] #[.pointer (some ⟨cb, 0, none⟩)]] w fun e w' => e = .returned (.int .i64 (idxFrom p xs 0)) ∧ Aw [] w w' := by
  have hll := hl.1
  have HP := Lib.hid hp
  clear hp
  obtain ⟨R, hR⟩ : ∃ R, idxFrom p xs 0 = R := ⟨_, rfl⟩
  rw [hR]
  have H0 : Hid (idxFrom p (xs.drop 0) 0 = R) := Lib.hid (by rw [List.drop_zero]; exact hR)
  clear hR
  go_enter Tryz.func209, Tryz.ntmps209
  go_wp2_with fail
  go_loopw [8] (fun i wr => ∃ k : Nat, k ≤ n ∧ i = .int .i64 k ∧ Hid (idxFrom p (xs.drop k) k = R) ∧ Aw [] w wr) (fun i _ => n - (intOf i).toNat)
  case atStart => exact ⟨0, by omega, rfl, H0, Aw.refl _ _⟩
  case round =>
    obtain ⟨k, hk, rfl, HG, hA⟩ := hrel
    clear H0
    have hG := HG.out
    clear HG
    by_cases hlt : k < n
    · have hd : decide ((k : Int) < n) = true := decide_eq_true (by omega)
      have hk0 : (0 : Int) ≤ k := by omega
      have hk1 : (k : Int) < n := by omega
      have hl1 := hl.aw hA hB (by simp)
      obtain ⟨b, off, rfl, hb, hcs⟩ := hl1.2 (by omega)
      obtain ⟨X, hX⟩ : ∃ X, xs[k]? = some X := ⟨_, List.getElem?_eq_getElem (by omega)⟩
      have q0 : wr.cell? ⟨b, off + k * 5, none⟩ = some (.string X.name) := hcs k X 0 _ hX rfl
      have q1 : wr.cell? ⟨b, off + k * 5 + 1, none⟩ = some (.int .i64 (X.kind : Int)) := hcs k X 1 _ hX rfl
      have q2 : wr.cell? ⟨b, off + k * 5 + 2, none⟩ = some (.string X.unit) := hcs k X 2 _ hX rfl
      have q3 : wr.cell? ⟨b, off + k * 5 + 3, none⟩ = some (.string X.help) := hcs k X 3 _ hX rfl
      have q4 : wr.cell? ⟨b, off + k * 5 + 4, none⟩ = some (.slice X.A X.pts.length X.c) := hcs k X 4 _ hX rfl
      have kP := HP.out X (List.mem_of_getElem? hX) wr hA
      rw [drop_at hX, idxFrom] at hG
      clear hcs hX hl1
      cases hq : p X
      · rw [hq] at kP hG
        rw [if_neg (by simp)] at hG
        have HN := Lib.hid hG
        clear hG hq
        go_wp2_with (go_at_call 170; (with_reducible refine kP.mono ?_); rintro e w1 ⟨rfl, hA1⟩)
        exact ⟨⟨k + 1, by omega, rfl, HN, hA.trans hA1⟩, by (simp only [intOf]; omega)⟩
      · rw [hq] at kP hG
        rw [if_pos rfl] at hG
        subst hG
        clear hq
        go_wp2_with (go_at_call 170; (with_reducible refine kP.mono ?_); rintro e w1 ⟨rfl, hA1⟩)
        go_ret
        exact ⟨rfl, hA.trans hA1⟩
    · have hd : decide ((k : Int) < n) = false := decide_eq_false (by omega)
      rw [List.drop_of_length_le (by omega), idxFrom] at hG
      subst hG
      go_wp2_with fail
      go_ret
      exact ⟨rfl, hA⟩
set_option maxHeartbeats 3200000 in
theorem idxP_any (cb : Nat) (A : Option Addr) (n cap B : Nat) (xs : List VPnt) (p : VPnt → Bool) (w : World) (hl : IsRows pntCell 9 w B A n xs) (hB : B ≤ w.heap.size) (hn : n ≤ 2097152)
    (hp : ∀ x ∈ xs, ∀ W, Aw [] w W → Calls Tryz.prog 80 #[.agg #[.slice x.A x.pt.labels.length x.c, .int .i64 (x.pt.role : Int), .bool x.pt.inf, .int .i64 x.pt.bM, .int .i64 (x.pt.bS : Int), .int .i64 x.pt.vM, .int .i64 (x.pt.vS : Int), .bool x.pt.timed, .int .i64 x.pt.time], .pointer (some ⟨cb, 0, none⟩)] W fun e w' => e = .returned (.bool (p x)) ∧ Aw [] W w') :
    Calls Tryz.prog 128 #[.slice A n cap, .func (.func 80) #[] #[.pointer (some ⟨cb, 0, none⟩)]] w fun e w' => e = .returned (.int .i64 (idxFrom p xs 0)) ∧ Aw [] w w' := by
  have hll := hl.1
  have HP := Lib.hid hp
  clear hp
  obtain ⟨R, hR⟩ : ∃ R, idxFrom p xs 0 = R := ⟨_, rfl⟩
  rw [hR]
  have H0 : Hid (idxFrom p (xs.drop 0) 0 = R) := Lib.hid (by rw [List.drop_zero]; exact hR)
  clear hR
  go_enter Tryz.func128, Tryz.ntmps128
  go_wp2_with fail
  go_loopw [8] (fun i wr => ∃ k : Nat, k ≤ n ∧ i = .int .i64 k ∧ Hid (idxFrom p (xs.drop k) k = R) ∧ Aw [] w wr) (fun i _ => n - (intOf i).toNat)
  case atStart => exact ⟨0, by omega, rfl, H0, Aw.refl _ _⟩
  case round =>
    obtain ⟨k, hk, rfl, HG, hA⟩ := hrel
    clear H0
    have hG := HG.out
    clear HG
    by_cases hlt : k < n
    · have hd : decide ((k : Int) < n) = true := decide_eq_true (by omega)
      have hk0 : (0 : Int) ≤ k := by omega
      have hk1 : (k : Int) < n := by omega
      have hl1 := hl.aw hA hB (by simp)
      obtain ⟨b, off, rfl, hb, hcs⟩ := hl1.2 (by omega)
      obtain ⟨X, hX⟩ : ∃ X, xs[k]? = some X := ⟨_, List.getElem?_eq_getElem (by omega)⟩
      have q0 : wr.cell? ⟨b, off + k * 9, none⟩ = some (.slice X.A X.pt.labels.length X.c) := hcs k X 0 _ hX rfl
      have q1 : wr.cell? ⟨b, off + k * 9 + 1, none⟩ = some (.int .i64 (X.pt.role : Int)) := hcs k X 1 _ hX rfl
      have q2 : wr.cell? ⟨b, off + k * 9 + 2, none⟩ = some (.bool X.pt.inf) := hcs k X 2 _ hX rfl
      have q3 : wr.cell? ⟨b, off + k * 9 + 3, none⟩ = some (.int .i64 X.pt.bM) := hcs k X 3 _ hX rfl
      have q4 : wr.cell? ⟨b, off + k * 9 + 4, none⟩ = some (.int .i64 (X.pt.bS : Int)) := hcs k X 4 _ hX rfl
      have q5 : wr.cell? ⟨b, off + k * 9 + 5, none⟩ = some (.int .i64 X.pt.vM) := hcs k X 5 _ hX rfl
      have q6 : wr.cell? ⟨b, off + k * 9 + 6, none⟩ = some (.int .i64 (X.pt.vS : Int)) := hcs k X 6 _ hX rfl
      have q7 : wr.cell? ⟨b, off + k * 9 + 7, none⟩ = some (.bool X.pt.timed) := hcs k X 7 _ hX rfl
      have q8 : wr.cell? ⟨b, off + k * 9 + 8, none⟩ = some (.int .i64 X.pt.time) := hcs k X 8 _ hX rfl
      have kP := HP.out X (List.mem_of_getElem? hX) wr hA
      rw [drop_at hX, idxFrom] at hG
      clear hcs hX hl1
      cases hq : p X
      · rw [hq] at kP hG
        rw [if_neg (by simp)] at hG
        have HN := Lib.hid hG
        clear hG hq
        go_wp2_with (go_at_call 80; (with_reducible refine kP.mono ?_); rintro e w1 ⟨rfl, hA1⟩)
        exact ⟨⟨k + 1, by omega, rfl, HN, hA.trans hA1⟩, by (simp only [intOf]; omega)⟩
      · rw [hq] at kP hG
        rw [if_pos rfl] at hG
        subst hG
        clear hq
        go_wp2_with (go_at_call 80; (with_reducible refine kP.mono ?_); rintro e w1 ⟨rfl, hA1⟩)
        go_ret
        exact ⟨rfl, hA.trans hA1⟩
    · have hd : decide ((k : Int) < n) = false := decide_eq_false (by omega)
      rw [List.drop_of_length_le (by omega), idxFrom] at hG
      subst hG
      go_wp2_with fail
      go_ret
      exact ⟨rfl, hA⟩
theorem conP_any (cb : Nat) (A : Option Addr) (n cap B : Nat) (xs : List VPnt) (p : VPnt → Bool) (w : World) (hl : IsRows pntCell 9 w B A n xs) (hB : B ≤ w.heap.size) (hn : n ≤ 2097152)
    (hp : ∀ x ∈ xs, ∀ W, Aw [] w W → Calls Tryz.prog 80 #[.agg #[.slice x.A x.pt.labels.length x.c, .int .i64 (x.pt.role : Int), .bool x.pt.inf, .int .i64 x.pt.bM, .int .i64 (x.pt.bS : Int), .int .i64 x.pt.vM, .int .i64 (x.pt.vS : Int), .bool x.pt.timed, .int .i64 x.pt.time], .pointer (some ⟨cb, 0, none⟩)] W fun e w' => e = .returned (.bool (p x)) ∧ Aw [] W w') :
    Calls Tryz.prog 79 #[.slice A n cap, .func (.func 80) #[] #[.pointer (some ⟨cb, 0, none⟩)]] w fun e w' => e = .returned (.bool (xs.any p)) ∧ Aw [] w w' := by
  have kI := idxP_any cb A n cap B xs p w hl hB hn hp
  have HB := Lib.hid (idxFrom_any p xs 0)
  generalize idxFrom p xs 0 = I at *
  generalize xs.any p = D at *
  clear hp
  cases hb : decide (0 ≤ I)
  all_goals
    go_enter Tryz.func79, Tryz.ntmps79
    go_wp2_with (go_at_call 128; (with_reducible refine kI.mono ?_); rintro e w1 ⟨rfl, hA1⟩)
    go_ret
    exact ⟨ret_bool (by rw [← HB.out, hb]), hA1⟩
theorem conF_any (cb : Nat) (A : Option Addr) (n cap B : Nat) (xs : List VFam) (p : VFam → Bool) (w : World) (hl : IsRows famCell 5 w B A n xs) (hB : B ≤ w.heap.size) (hn : n ≤ 2097152)
    (hp : ∀ x ∈ xs, ∀ W, Aw [] w W → Calls Tryz.prog 170 #[.agg #[.string x.name, .int .i64 (x.kind : Int), .string x.unit, .string x.help, .slice x.A x.pts.length x.c], .pointer (some ⟨cb, 0, none⟩)] W fun e w' => e = .returned (.bool (p x)) ∧ Aw [] W w') :
    Calls Tryz.prog 169 #[.slice A n cap, .func (.func 170) #[] #[.pointer (some ⟨cb, 0, none⟩)]] w fun e w' => e = .returned (.bool (xs.any p)) ∧ Aw [] w w' := by
  have kI := idxF_any cb A n cap B xs p w hl hB hn hp
  have HB := Lib.hid (idxFrom_any p xs 0)
  generalize idxFrom p xs 0 = I at *
  generalize xs.any p = D at *
  clear hp
  cases hb : decide (0 ≤ I)
  all_goals
    go_enter Tryz.func169, Tryz.ntmps169
    go_wp2_with (go_at_call 209; (with_reducible refine kI.mono ?_); rintro e w1 ⟨rfl, hA1⟩)
    go_ret
    exact ⟨ret_bool (by rw [← HB.out, hb]), hA1⟩
theorem tagClo_any (cb : Nat) (T x : MTag) (w : World) (hc : Blk w cb 45 #[.string T.name, .string T.value, .int .i64 (T.off : Int), .int .i64 (T.pos : Int)]) : Calls Tryz.prog 123 #[.agg #[.string x.name, .string x.value, .int .i64 (x.off : Int), .int .i64 (x.pos : Int)], .pointer (some ⟨cb, 0, none⟩)] w fun e w' => e = .returned (.bool (x.name.data.toList == T.name.data.toList)) ∧ Aw [] w w' := by
  have hA := (Aw.refl [] w).alloc (.cells #[.string x.name, .string x.value, .int .i64 (x.off : Int), .int .i64 (x.pos : Int)] 45)
  have hb := Blk.new w 45 #[.string x.name, .string x.value, .int .i64 (x.off : Int), .int .i64 (x.pos : Int)]
  have c0 := (Blk.cell hb 0).trans rfl
  have c1 := (Blk.cell (Blk.aw hc hA (by simp)) 0).trans rfl
  clear hc
  cases hb : x.name.data.toList == T.name.data.toList
  all_goals
    go_enter Tryz.func123, Tryz.ntmps123
    go_wp2_with fail
    go_ret
    exact ⟨ret_bool (by first | exact hb | (rw [ByteArray.toList_eq, ByteArray.toList_eq]; exact hb) | (rw [ByteArray.toList_eq, ByteArray.toList_eq]; exact hb.symm) | exact (hb.symm)), hA⟩
set_option maxHeartbeats 3200000 in
theorem idxT_any (cb : Nat) (A : Option Addr) (n cap B : Nat) (xs : List MTag) (p : MTag → Bool) (w : World) (hl : IsRows tagCell 4 w B A n xs) (hB : B ≤ w.heap.size) (hn : n ≤ 2097152)
    (hp : ∀ x ∈ xs, ∀ W, Aw [] w W → Calls Tryz.prog 123 #[.agg #[.string x.name, .string x.value, .int .i64 (x.off : Int), .int .i64 (x.pos : Int)], .pointer (some ⟨cb, 0, none⟩)] W fun e w' => e = .returned (.bool (p x)) ∧ Aw [] W w') :
    Calls Tryz.prog 171 #[.slice A n cap, .func (.func 123) #[] #[.pointer (some ⟨cb, 0, none⟩)]] w fun e w' => e = .returned (.int .i64 (idxFrom p xs 0)) ∧ Aw [] w w' := by
  have hll := hl.1
  have HP := Lib.hid hp
  clear hp
  obtain ⟨R, hR⟩ : ∃ R, idxFrom p xs 0 = R := ⟨_, rfl⟩
  rw [hR]
  have H0 : Hid (idxFrom p (xs.drop 0) 0 = R) := Lib.hid (by rw [List.drop_zero]; exact hR)
  clear hR
  go_enter Tryz.func171, Tryz.ntmps171
  go_wp2_with fail
  go_loopw [8] (fun i wr => ∃ k : Nat, k ≤ n ∧ i = .int .i64 k ∧ Hid (idxFrom p (xs.drop k) k = R) ∧ Aw [] w wr) (fun i _ => n - (intOf i).toNat)
  case atStart => exact ⟨0, by omega, rfl, H0, Aw.refl _ _⟩
  case round =>
    obtain ⟨k, hk, rfl, HG, hA⟩ := hrel
    clear H0
    have hG := HG.out
    clear HG
    by_cases hlt : k < n
    · have hd : decide ((k : Int) < n) = true := decide_eq_true (by omega)
      have hk0 : (0 : Int) ≤ k := by omega
      have hk1 : (k : Int) < n := by omega
      have hl1 := hl.aw hA hB (by simp)
      obtain ⟨b, off, rfl, hb, hcs⟩ := hl1.2 (by omega)
      obtain ⟨X, hX⟩ : ∃ X, xs[k]? = some X := ⟨_, List.getElem?_eq_getElem (by omega)⟩
      have q0 : wr.cell? ⟨b, off + k * 4, none⟩ = some (.string X.name) := hcs k X 0 _ hX rfl
      have q1 : wr.cell? ⟨b, off + k * 4 + 1, none⟩ = some (.string X.value) := hcs k X 1 _ hX rfl
      have q2 : wr.cell? ⟨b, off + k * 4 + 2, none⟩ = some (.int .i64 (X.off : Int)) := hcs k X 2 _ hX rfl
      have q3 : wr.cell? ⟨b, off + k * 4 + 3, none⟩ = some (.int .i64 (X.pos : Int)) := hcs k X 3 _ hX rfl
      have kP := HP.out X (List.mem_of_getElem? hX) wr hA
      rw [drop_at hX, idxFrom] at hG
      clear hcs hX hl1
      cases hq : p X
      · rw [hq] at kP hG
        rw [if_neg (by simp)] at hG
        have HN := Lib.hid hG
        clear hG hq
        go_wp2_with (go_at_call 123; (with_reducible refine kP.mono ?_); rintro e w1 ⟨rfl, hA1⟩)
        exact ⟨⟨k + 1, by omega, rfl, HN, hA.trans hA1⟩, by (simp only [intOf]; omega)⟩
      · rw [hq] at kP hG
        rw [if_pos rfl] at hG
        subst hG
        clear hq
        go_wp2_with (go_at_call 123; (with_reducible refine kP.mono ?_); rintro e w1 ⟨rfl, hA1⟩)
        go_ret
        exact ⟨rfl, hA.trans hA1⟩
    · have hd : decide ((k : Int) < n) = false := decide_eq_false (by omega)
      rw [List.drop_of_length_le (by omega), idxFrom] at hG
      subst hG
      go_wp2_with fail
      go_ret
      exact ⟨rfl, hA⟩
theorem conT_any (cb : Nat) (A : Option Addr) (n cap B : Nat) (xs : List MTag) (p : MTag → Bool) (w : World) (hl : IsRows tagCell 4 w B A n xs) (hB : B ≤ w.heap.size) (hn : n ≤ 2097152)
    (hp : ∀ x ∈ xs, ∀ W, Aw [] w W → Calls Tryz.prog 123 #[.agg #[.string x.name, .string x.value, .int .i64 (x.off : Int), .int .i64 (x.pos : Int)], .pointer (some ⟨cb, 0, none⟩)] W fun e w' => e = .returned (.bool (p x)) ∧ Aw [] W w') :
    Calls Tryz.prog 124 #[.slice A n cap, .func (.func 123) #[] #[.pointer (some ⟨cb, 0, none⟩)]] w fun e w' => e = .returned (.bool (xs.any p)) ∧ Aw [] w w' := by
  have kI := idxT_any cb A n cap B xs p w hl hB hn hp
  have HB := Lib.hid (idxFrom_any p xs 0)
  generalize idxFrom p xs 0 = I at *
  generalize xs.any p = D at *
  clear hp
  cases hb : decide (0 ≤ I)
  all_goals
    go_enter Tryz.func124, Tryz.ntmps124
    go_wp2_with (go_at_call 171; (with_reducible refine kI.mono ?_); rintro e w1 ⟨rfl, hA1⟩)
    go_ret
    exact ⟨ret_bool (by rw [← HB.out, hb]), hA1⟩
end
section
def vnew (n : ByteArray) : VFam := ⟨n, 0, ⟨#[]⟩, ⟨#[]⟩, [], none, 0⟩
theorem stands_nil (r : Nat) (c o l k : Int) (s : ByteArray) (fv : Value) (t1 t2 t3 : Bool) (N : Nat) (w0 w : World) (h : OA w0 w r c o l k s fv [] t1 t2 t3 N) :
    Calls Tryz.prog 75 #[.pointer (some ⟨r, 0, none⟩)] w fun e w' => e = .returned (.pointer none) ∧ Aw [] w w' := by
  obtain ⟨A, fc, rfl⟩ := h.fams.form
  obtain ⟨⟨_, _, _, _, _, c5, _, _, _, _, _⟩, _⟩ := h.rd.facts
  rw [List.length_nil] at c5
  go_enter Tryz.func75, Tryz.ntmps75
  go_wp2_with fail
  go_ret
  exact ⟨rfl, Aw.refl [] w⟩
set_option maxHeartbeats 1600000 in
theorem stands_last (r : Nat) (c o l k : Int) (s : ByteArray) (fv : Value) (fs : List VFam) (t1 t2 t3 : Bool) (N i : Nat) (w0 w : World) (h : OA w0 w r c o l k s fv fs t1 t2 t3 N) (hi : fs.length = i + 1) (h30 : i ≤ 31) :
    ∃ g fc, fv = .slice (some ⟨g, 0, none⟩) (i + 1) fc ∧ w0.heap.size ≤ g ∧ Calls Tryz.prog 75 #[.pointer (some ⟨r, 0, none⟩)] w fun e w' => e = .returned (.pointer (some ⟨g, i * 5, none⟩)) ∧ Aw [] w w' := by
  obtain ⟨X, hX⟩ : ∃ X, fs[i]? = some X := ⟨_, List.getElem?_eq_getElem (by omega)⟩
  obtain ⟨g, fc, e1, hg, c4, z4⟩ := h.fams.at_ hX
  rw [hi] at e1
  refine ⟨g, fc, e1, hg, ?_⟩
  subst e1
  obtain ⟨⟨_, _, _, _, _, c5, _, _, _, _, _⟩, _⟩ := h.rd.facts
  have d1 : ((((i + 1 : Nat) : Int)) == 0) = false := by rw [beq_eq_false_iff_ne]; omega
  have d1n : (((i : Int) + 1) == 0) = false := by rw [beq_eq_false_iff_ne]; omega
  have e2 : ((i + 1 : Nat) : Int) - 1 = i := by omega
  have e3 : ((i : Int) + 1) - 1 = i := by omega
  have hi0 : (0 : Int) ≤ i := by omega
  have hi1 : (i : Int) < (i + 1 : Nat) := by omega
  have hi2 : (i : Int) < (i : Int) + 1 := by omega
  clear h hX c4 z4
  go_enter Tryz.func75, Tryz.ntmps75
  go_upto_region 3 with (fail)
  go_quiet (fail)
  rename_i nq
  go_wp2_with fail
  go_ret
  exact ⟨rfl, (Aw.refl [] w).drewN nq⟩
theorem begins_full (r : Nat) (c o l k : Int) (s : ByteArray) (fv : Value) (fs : List VFam) (t1 t2 t3 : Bool) (N : Nat) (n : ByteArray) (w0 w : World) (h : OA w0 w r c o l k s fv fs t1 t2 t3 N) (hf : 30 ≤ fs.length) :
    Calls Tryz.prog 122 #[.pointer (some ⟨r, 0, none⟩), .string n] w fun e w' => e = .returned (.bool false) ∧ Aw [] w w' := by
  obtain ⟨A, fc, rfl⟩ := h.fams.form
  obtain ⟨⟨_, _, _, _, _, c5, _, _, _, _, _⟩, _⟩ := h.rd.facts
  have d1 : decide ((30 : Int) ≤ (fs.length : Int)) = true := decide_eq_true (by omega)
  have d1n : decide (30 ≤ fs.length) = true := decide_eq_true hf
  clear h
  go_enter Tryz.func122, Tryz.ntmps122
  go_wp2_with fail
  go_ret
  exact ⟨rfl, Aw.refl [] w⟩
set_option maxRecDepth 100000 in
set_option maxHeartbeats 6400000 in
theorem begins_any (r : Nat) (c o l k : Int) (s : ByteArray) (fv : Value) (fs : List VFam) (t1 t2 t3 : Bool) (N : Nat) (n : ByteArray) (w0 w : World) (h : OA w0 w r c o l k s fv fs t1 t2 t3 N) (hf : fs.length < 30) :
    Calls Tryz.prog 122 #[.pointer (some ⟨r, 0, none⟩), .string n] w fun e w' => e = .returned (.bool true) ∧ ∃ fv', OA w0 w' r c o l k s fv' (fs ++ [vnew n]) false false false N ∧ ∀ b t cs, Blk w b t cs → b ≠ r → 68 ≠ t → Blk w' b t cs := by
  obtain ⟨j0, hj0, hy0, hy1, hy2⟩ := info_parts Tryz.infoFam
  have hv : Tryz.prog.underlying 27 = some (.slice 68) := by kernel_rfl
  obtain ⟨fA, fc, rfl⟩ := h.fams.form
  obtain ⟨⟨_, _, _, _, _, c5, c6, c7, c8, c9, _⟩, f⟩ := h.rd.facts
  have f5 := f 5; have f6 := f 6; have f7 := f 7; have f8 := f 8; have f9 := f 9
  clear f
  have d1 : decide ((30 : Int) ≤ (fs.length : Int)) = false := decide_eq_false (by omega)
  have d1n : decide (30 ≤ fs.length) = false := decide_eq_false (by omega)
  have c5a : (w.alloc (.cells #[.string n, .int .i64 0, .string ⟨#[]⟩, .string ⟨#[]⟩, .slice none 0 0] 68)).cell? ⟨r, 5, none⟩ = some (.slice fA fs.length fc) := (World.cell?_alloc_lt w _ ⟨r, _, none⟩ (lt_of_cell c5)).trans c5
  have hsz := h.aw.size
  have hrl := h.rl
  go_enter Tryz.func122, Tryz.ntmps122
  go_upto_region 4 with (at_builtin; refine wpList_append_lies _ (by rfl) _ _ _ (by rfl) w0.heap.size 68 j0 _ 5 80 hv hj0 hy0 hy1 hy2 rfl (by omega) (.slice fA fs.length fc) fs.length (fs.flatMap famCell) (by rfl) (h.fams.own.alloc _) ⟨w.heap.size, 0, none⟩ 1 1 (famCell (vnew n)) (by rfl) (by rfl) (World.news_of_block (heap_alloc_new w _)) (by simp [famCell, vnew, Value.oneCell']) (by omega) (by simp [maxLen]; omega) (by omega) (by simp; omega) (w.heap.size + 1) (by simp) ?_; intro g cq w18 hown18 hgrow hat18 hlt18; have hr18 : Ob w18 r c o l k s (.slice fA fs.length fc) t1 t2 t3 N := Blk.grown (w := _) (Blk.alloc h.rd _) hgrow (fun e => own_blk_ne h.fams.own h.rd (by decide) e.symm); obtain ⟨⟨_, _, _, _, _, v5, v6, v7, v8, v9, _⟩, u⟩ := hr18.facts; have u5 := u 5; have u6 := u 6; have u7 := u 7; have u8 := u 8; have u9 := u 9; clear u)
  · have hq4 := h.fams.own
    have hKB : ∀ b t cs, Blk w b t cs → b ≠ r → 68 ≠ t → Blk (w18.setCell ⟨r, 5, none⟩ (.slice (some ⟨g, 0, none⟩) (fs.length + 1) cq)) b t cs := fun b t cs hB hbr ht => Blk.far (Blk.grown (w := _) (Blk.alloc hB _) hgrow (fun e => own_blk_ne h.fams.own hB ht e.symm)) (p := ⟨r, 5, none⟩) hbr _
    have hP := FamsAt.push (n := n) (h.alloc _).fams hgrow hown18
    have hr19 := hr18.fams (.slice (some ⟨g, 0, none⟩) (fs.length + 1) cq)
    have hF19 := hP.far hr18 (by decide) (by decide) (by decide) 5 (.slice (some ⟨g, 0, none⟩) (fs.length + 1) cq)
    have hA19 := ((h.aw.alloc _).grown hgrow (fun k' hk => .inr (hq4.lt _ hk).1)).setCell (p := ⟨r, 5, none⟩) (.inl (by simp)) (.slice (some ⟨g, 0, none⟩) (fs.length + 1) cq)
    clear hq4 hP hr18 hown18 hgrow hat18 hlt18 v5 v6 v7 v8 v9 u5 u6 u7 u8 u9 c5 c6 c7 c8 c9 f5 f6 f7 f8 f9 c5a h
    generalize w18.setCell ⟨r, 5, none⟩ (.slice (some ⟨g, 0, none⟩) (fs.length + 1) cq) = w5 at *
    obtain ⟨⟨_, _, _, _, _, v5, v6, v7, v8, v9, _⟩, u⟩ := hr19.facts
    have u6 := u 6; have u7 := u 7; have u8 := u 8; have u9 := u 9
    clear u
    go_wp2_with fail
    go_ret
    have e6 := Blk.set_ hr19 6 (.bool false)
    have e7 := Blk.set_ e6 7 (.bool false)
    have e8 := Blk.set_ e7 8 (.bool false)
    have e9 := Blk.set_ e8 9 (.bool false)
    have g6 := hF19.far hr19 (by decide) (by decide) (by decide) 6 (.bool false)
    have g7 := g6.far e6 (by decide) (by decide) (by decide) 7 (.bool false)
    have g8 := g7.far e7 (by decide) (by decide) (by decide) 8 (.bool false)
    have g9 := g8.far e8 (by decide) (by decide) (by decide) 9 (.bool false)
    exact ⟨rfl, _, ⟨e9, g9, (((hA19.setCell (.inl (by simp)) _).setCell (.inl (by simp)) _).setCell (.inl (by simp)) _).setCell (.inl (by simp)) _, hrl⟩, fun b t cs hB hbr ht => (((Blk.far (hKB b t cs hB hbr ht) (p := ⟨r, 6, none⟩) hbr _).far (p := ⟨r, 7, none⟩) hbr _).far (p := ⟨r, 8, none⟩) hbr _).far (p := ⟨r, 9, none⟩) hbr _⟩
end
section
theorem knownO_map (fs : List VFam) (l : List UInt8) : knownO (fs.map VFam.fam) l = fs.any fun x => x.name.data.toList == l := by
  unfold knownO
  rw [List.any_map]
  rfl
set_option maxHeartbeats 1600000 in
theorem known_any (r : Nat) (c o l k : Int) (s : ByteArray) (fv : Value) (fs : List VFam) (t1 t2 t3 : Bool) (N : Nat) (n : ByteArray) (w0 w : World) (h : OA w0 w r c o l k s fv fs t1 t2 t3 N) (hf : fs.length ≤ 31) :
    Calls Tryz.prog 121 #[.pointer (some ⟨r, 0, none⟩), .string n] w fun e w' => e = .returned (.bool (knownO (fs.map VFam.fam) n.data.toList)) ∧ Aw [] w w' := by
  have hmf : ∀ (fn : Fn) (first cap : Array Value) (w : World), (Instr.makeFunc fn first cap).run Tryz.prog w = .ok (.func fn first cap) w := fun _ _ _ _ => rfl
  rw [knownO_map]
  have hA := (Aw.refl [] w).alloc (.cells #[.string n] 9)
  have h1 := h.alloc (.cells #[.string n] 9)
  have hb := Blk.new w 9 #[.string n]
  obtain ⟨A, fc, rfl⟩ := h.fams.form
  have kC := conF_any w.heap.size A fs.length fc _ fs (fun x => x.name.data.toList == n.data.toList) _ h1.fams.rows (Nat.le_refl _) (by omega) (fun x _ W2 hA2 => named_any w.heap.size n x W2 ((Blk.cell (Blk.aw hb hA2 (by simp)) 0).trans rfl))
  obtain ⟨⟨_, _, _, _, _, c5, _, _, _, _, _⟩, _⟩ := h1.rd.facts
  generalize (fs.any fun x => x.name.data.toList == n.data.toList) = D at *
  clear h1 h hb
  go_enter Tryz.func121, Tryz.ntmps121
  go_wp2_with (go_at_call 169; (with_reducible refine kC.mono ?_); rintro e w1 ⟨rfl, hA1⟩)
  go_ret
  exact ⟨rfl, hA.trans hA1⟩
end
end Go.Proofs.YtcapbikelgcmmaaGreatDoor
