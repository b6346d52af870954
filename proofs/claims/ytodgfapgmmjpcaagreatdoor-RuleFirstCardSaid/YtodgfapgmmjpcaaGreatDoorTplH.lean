/- The walks of package template: a rule whose texts are its own; Compile. -/
import Derived.Test.YtodgfapgmmjpcaaGreatDoorTplG
namespace Go.Proofs.YtodgfapgmmjpcaaGreatDoor
set_option linter.unusedVariables false
set_option linter.unusedSimpArgs false
open Go.RowKit
theorem clone_any (s : ByteArray) (w : World) (hs : s.size ≤ 281474976710656) : Calls Tryz.prog 61 #[.string s] w fun e w' => e = .returned (.string s) ∧ Below w.heap.size w w' := by
  have k := Tryz.stringslite_Clone s w hs
  go_enter Tryz.func61, Tryz.ntmps61
  go_wp2_with (go_at_call 81; (with_reducible refine k.mono ?_); rintro e w1 ⟨rfl, hb1⟩)
  go_ret
  exact ⟨rfl, hb1⟩
/-- A rule's rows lie above a mark. -/
def Above (B : Nat) (y : VRule) : Prop := (∀ b o, y.fA = some ⟨b, o, none⟩ → B ≤ b) ∧ (∀ b o, y.pA = some ⟨b, o, none⟩ → B ≤ b) ∧ (∀ b o, y.eA = some ⟨b, o, none⟩ → B ≤ b)
theorem rows_off {α : Type} {f : α → List Value} {size B n : Nat} {A : Option Addr} {xs : List α} {S : List Nat} {w w' : World} (h : IsRows f size w B A n xs) (k : Aw S w w') (hB : B ≤ w.heap.size) (hS : ∀ b o, A = some ⟨b, o, none⟩ → b ∉ S) : IsRows f size w' B A n xs :=
  ⟨h.1, fun hn => by
    obtain ⟨b, off, e, hb, hc⟩ := h.2 hn
    exact ⟨b, off, e, hb, fun i x j u hx hu => (World.cell?_of_block (w := w) (a := ⟨b, off + (i * size + j), none⟩) (k.block b (by omega) (hS b off e))).trans (hc i x j u hx hu)⟩⟩
theorem RuleAt.off {S : List Nat} {w w' : World} {B : Nat} {y : VRule} {m : Nat} (h : RuleAt w B y) (k : Aw S w w') (hB : B ≤ w.heap.size) (ha : Above m y) (hS : ∀ i, i ∈ S → i < m) : RuleAt w' B y :=
  ⟨rows_off h.f k hB (fun b o e hm => by have := ha.1 b o e; have := hS b hm; omega), rows_off h.p k hB (fun b o e hm => by have := ha.2.1 b o e; have := hS b hm; omega), rows_off h.e k hB (fun b o e hm => by have := ha.2.2 b o e; have := hS b hm; omega)⟩
theorem own_above {w : World} {base : Nat} {e : TypeId} {size n c : Nat} {A : Option Addr} {xs : List Value} (h : w.ownsRow base e size (.slice A n c) n xs) : ∀ b o, A = some ⟨b, o, none⟩ → base ≤ b := fun b o hA => by
  subst hA; exact (h.lt b rfl).1
/-- What cloned hands back. -/
structure ClonedE (w w' : World) (r : MRule) (e : Ending) : Prop where
  e : ∃ y : VRule, e = .returned (.agg #[.slice y.fA y.rule.filter.length y.fC, .slice y.pA y.rule.parts.length y.pC, .slice y.eA y.rule.extra.length y.eC]) ∧ y.rule = r ∧ RuleAt w' w'.heap.size y ∧ Above w.heap.size y
  b : Below w.heap.size w w'
/-- What stands while the copy is made. -/
structure CV (w W : World) (fA : Option Addr) (fs : List ByteArray) (fC : Nat) (pA : Option Addr) (ps : List ByteArray) (pC : Nat) (eA : Option Addr) (es : List Lab) (eC : Nat) : Prop where
  f : Reads W w.heap.size 1 fA fs.length (fs.flatMap strCell)
  p : Reads W w.heap.size 1 pA ps.length (ps.flatMap strCell)
  bx : Blk W w.heap.size 25 #[.slice fA fs.length fC, .slice pA ps.length pC, .slice eA es.length eC]
  br : Blk W (w.heap.size + 1) 25 #[.slice none 0 0, .slice none 0 0, .slice none 0 0]
  bl : Below w.heap.size w W
  sz : w.heap.size + 2 ≤ W.heap.size
section
variable {w W W' : World} {fA pA eA : Option Addr} {fC pC eC : Nat} {fs ps : List ByteArray} {es : List Lab}
theorem CV.alloc (h : CV w W fA fs fC pA ps pC eA es eC) (o : Obj) : CV w (W.alloc o) fA fs fC pA ps pC eA es eC :=
  ⟨h.f.alloc (by have := h.sz; omega) o, h.p.alloc (by have := h.sz; omega) o, h.bx.alloc o, h.br.alloc o, bl_alloc h.bl o, by have := h.sz; simp; omega⟩
theorem CV.drew (h : CV w W fA fs fC pA ps pC eA es eC) : CV w W.drew fA fs fC pA ps pC eA es eC := ⟨h.f, h.p, h.bx, h.br, h.bl.drew, h.sz⟩
theorem CV.grown (h : CV w W fA fs fC pA ps pC eA es eC) (k : W.grownBy W' none) : CV w W' fA fs fC pA ps pC eA es eC :=
  ⟨h.f.grown k (by have := h.sz; omega) (by simp), h.p.grown k (by have := h.sz; omega) (by simp), h.bx.grown k (by simp), h.br.grown k (by simp), h.bl.grown k (by have := h.sz; omega) (by simp), by have := h.sz; have := k.size; omega⟩
theorem CV.call (h : CV w W fA fs fC pA ps pC eA es eC) (k : Below W.heap.size W W') : CV w W' fA fs fC pA ps pC eA es eC :=
  ⟨h.f.below (k.mono (by have := h.sz; omega)), h.p.below (k.mono (by have := h.sz; omega)), h.bx.below k (Blk.lt h.bx), h.br.below k (Blk.lt h.br), bl_any h.bl k, by have := h.sz; have := k.size; omega⟩
theorem CV.set (h : CV w W fA fs fC pA ps pC eA es eC) {p : Addr} (hp : w.heap.size + 2 ≤ p.block) (u : Value) : CV w (W.setCell p u) fA fs fC pA ps pC eA es eC :=
  ⟨h.f.setCell (by omega) u, h.p.setCell (by omega) u, h.bx.far (by omega) u, h.br.far (by omega) u, bl_set h.bl (by omega) u, by have := h.sz; simp; omega⟩
theorem CV.grownR (h : CV w W fA fs fC pA ps pC eA es eC) {row : Option Nat} (k : W.grownBy W' row) (hr : ∀ i, row = some i → w.heap.size + 2 ≤ i) : CV w W' fA fs fC pA ps pC eA es eC :=
  ⟨h.f.grown k (by have := h.sz; omega) (fun i e => by have := hr i e; omega), h.p.grown k (by have := h.sz; omega) (fun i e => by have := hr i e; omega), h.bx.grown k (fun e => by have := hr _ e.symm; omega), h.br.grown k (fun e => by have := hr _ e.symm; omega), h.bl.grown k (by have := h.sz; omega) (fun i e => by have := hr i e; omega), by have := h.sz; have := k.size; omega⟩
theorem CV.facts (h : CV w W fA fs fC pA ps pC eA es eC) : W.cell? ⟨w.heap.size, 0, none⟩ = some (.slice fA fs.length fC) ∧ W.cell? ⟨w.heap.size, 1, none⟩ = some (.slice pA ps.length pC) ∧ W.cell? ⟨w.heap.size, 2, none⟩ = some (.slice eA es.length eC) := ⟨(Blk.cell h.bx 0).trans rfl, (Blk.cell h.bx 1).trans rfl, (Blk.cell h.bx 2).trans rfl⟩
end
/-- .. and what it was made of so far. -/
structure XO (w W : World) (fA : Option Addr) (fs : List ByteArray) (fC : Nat) (pA : Option Addr) (ps : List ByteArray) (pC : Nat) (eA : Option Addr) (es : List Lab) (eC : Nat) (g2 : Nat) (fA2 : Option Addr) (fC2 : Nat) (pA2 : Option Addr) (pC2 : Nat) (ev : Value) (acc : List Lab) : Prop where
  cv : CV w W fA fs fC pA ps pC eA es eC
  out : Blk W g2 25 #[.slice fA2 fs.length fC2, .slice pA2 ps.length pC2, ev]
  of : W.ownsRow (w.heap.size + 2) 9 1 (.slice fA2 fs.length fC2) fs.length (fs.flatMap strCell)
  op : W.ownsRow (w.heap.size + 2) 9 1 (.slice pA2 ps.length pC2) ps.length (ps.flatMap strCell)
  oe : W.ownsRow (w.heap.size + 2) 33 2 ev acc.length (acc.flatMap labCell)
  gl : w.heap.size + 2 ≤ g2
section
variable {w W W' : World} {fA pA eA : Option Addr} {fC pC eC : Nat} {fs ps : List ByteArray} {es acc : List Lab} {g2 : Nat} {fA2 pA2 : Option Addr} {fC2 pC2 : Nat} {ev ev' : Value}
theorem XO.call (h : XO w W fA fs fC pA ps pC eA es eC g2 fA2 fC2 pA2 pC2 ev acc) (k : Below W.heap.size W W') : XO w W' fA fs fC pA ps pC eA es eC g2 fA2 fC2 pA2 pC2 ev acc :=
  ⟨h.cv.call k, h.out.below k (Blk.lt h.out), own_bel h.of k, own_bel h.op k, own_bel h.oe k, h.gl⟩
theorem XO.alloc (h : XO w W fA fs fC pA ps pC eA es eC g2 fA2 fC2 pA2 pC2 ev acc) (o : Obj) : XO w (W.alloc o) fA fs fC pA ps pC eA es eC g2 fA2 fC2 pA2 pC2 ev acc := h.call ((Below.refl _ _).alloc (Nat.le_refl _) o)
theorem XO.drew (h : XO w W fA fs fC pA ps pC eA es eC g2 fA2 fC2 pA2 pC2 ev acc) : XO w W.drew fA fs fC pA ps pC eA es eC g2 fA2 fC2 pA2 pC2 ev acc := h.call (Below.refl _ _).drew
theorem XO.facts (h : XO w W fA fs fC pA ps pC eA es eC g2 fA2 fC2 pA2 pC2 ev acc) : W.cell? ⟨g2, 2, none⟩ = some ev ∧ W.frozen? ⟨g2, 2, none⟩ = false := ⟨(Blk.cell h.out 2).trans rfl, Blk.frozen h.out 2⟩
/-- One more label is put to them. -/
theorem XO.put (h : XO w W fA fs fC pA ps pC eA es eC g2 fA2 fC2 pA2 pC2 ev acc) (k : W.grownBy W' ev.ownBlock) {x : Lab} (ho : W'.ownsRow (w.heap.size + 2) 33 2 ev' (acc.length + 1) (acc.flatMap labCell ++ labCell x)) :
    (W'.cell? ⟨g2, 2, none⟩ = some ev ∧ W'.frozen? ⟨g2, 2, none⟩ = false) ∧ XO w (W'.setCell ⟨g2, 2, none⟩ ev') fA fs fC pA ps pC eA es eC g2 fA2 fC2 pA2 pC2 ev' (acc ++ [x]) := by
  have hr : ∀ i, ev.ownBlock = some i → w.heap.size + 2 ≤ i := fun i e => (h.oe.lt i e).1
  have hout := h.out.grown k (fun e => own_blk_ne h.oe h.out (by decide) e.symm)
  have hof := h.of.kept k (own_ne2 h.of h.oe (by decide))
  have hop := h.op.kept k (own_ne2 h.op h.oe (by decide))
  have ka := (Aw.refl [g2] W').setCell (p := ⟨g2, 2, none⟩) (.inl (by simp)) ev'
  have hoe : W'.ownsRow (w.heap.size + 2) 33 2 ev' (acc ++ [x]).length ((acc ++ [x]).flatMap labCell) := by
    rw [List.length_append, List.flatMap_append]; simpa using ho
  refine ⟨⟨(Blk.cell hout 2).trans rfl, Blk.frozen hout 2⟩, (h.cv.grownR k hr).set h.gl ev', Blk.set_ hout 2 ev', ?_, ?_, ?_, h.gl⟩
  · exact own_aw hof ka (fun i hi hm => by simp at hm; subst hm; exact own_blk_ne hof hout (by decide) hi)
  · exact own_aw hop ka (fun i hi hm => by simp at hm; subst hm; exact own_blk_ne hop hout (by decide) hi)
  · exact own_aw hoe ka (fun i hi hm => by simp at hm; subst hm; exact own_blk_ne hoe hout (by decide) hi)
theorem XO.made (h : CV w W fA fs fC pA ps pC eA es eC) (of : W.ownsRow (w.heap.size + 2) 9 1 (.slice fA2 fs.length fC2) fs.length (fs.flatMap strCell)) (op : W.ownsRow (w.heap.size + 2) 9 1 (.slice pA2 ps.length pC2) ps.length (ps.flatMap strCell)) :
    XO w (W.alloc (.cells #[.slice fA2 fs.length fC2, .slice pA2 ps.length pC2, .slice none 0 0] 25)) fA fs fC pA ps pC eA es eC W.heap.size fA2 fC2 pA2 pC2 (.slice none 0 0) [] :=
  ⟨h.alloc _, Blk.new W _ _, of.alloc _, op.alloc _, World.ownsRow_nil _ _ _ _, h.sz⟩
theorem XO.stores (h : CV w W fA fs fC pA ps pC eA es eC) (of : W.ownsRow (w.heap.size + 2) 9 1 (.slice fA2 fs.length fC2) fs.length (fs.flatMap strCell)) (op : W.ownsRow (w.heap.size + 2) 9 1 (.slice pA2 ps.length pC2) ps.length (ps.flatMap strCell))
    (ho : Blk W g2 25 #[.slice none 0 0, .slice none 0 0, .slice none 0 0]) (hg : w.heap.size + 2 ≤ g2) :
    XO w (((W.setCell ⟨g2, 0, none⟩ (.slice fA2 fs.length fC2)).setCell ⟨g2, 1, none⟩ (.slice pA2 ps.length pC2)).setCell ⟨g2, 2, none⟩ (.slice none 0 0)) fA fs fC pA ps pC eA es eC g2 fA2 fC2 pA2 pC2 (.slice none 0 0) [] := by
  have ka := (((Aw.refl [g2] W).setCell (p := ⟨g2, 0, none⟩) (.inl (by simp)) (.slice fA2 fs.length fC2)).setCell (p := ⟨g2, 1, none⟩) (.inl (by simp)) (.slice pA2 ps.length pC2)).setCell (p := ⟨g2, 2, none⟩) (.inl (by simp)) (.slice none 0 0)
  exact ⟨((h.set hg _).set hg _).set hg _, Blk.set_ (Blk.set_ (Blk.set_ ho 0 _) 1 _) 2 _, own_aw of ka (fun i hi hm => by simp at hm; subst hm; exact own_blk_ne of ho (by decide) hi), own_aw op ka (fun i hi hm => by simp at hm; subst hm; exact own_blk_ne op ho (by decide) hi), World.ownsRow_nil _ _ _ _, hg⟩
end
set_option maxRecDepth 100000 in
set_option maxHeartbeats 6400000 in
theorem cloned_any (x : VRule) (w : World) (h : RuleAt w w.heap.size x) (h1 : x.rule.filter.length ≤ 2097152) (h2 : x.rule.parts.length ≤ 2097152) (h3 : x.rule.extra.length ≤ 2097152) (hsz : ∀ z ∈ x.rule.extra, z.1.size ≤ 281474976710656 ∧ z.2.size ≤ 281474976710656) :
    Calls Tryz.prog 39 #[.agg #[.slice x.fA x.rule.filter.length x.fC, .slice x.pA x.rule.parts.length x.pC, .slice x.eA x.rule.extra.length x.eC]] w fun e w' => ClonedE w w' x.rule e := by
  obtain ⟨hF, hP, hE⟩ := h
  obtain ⟨⟨fs, ps, es⟩, fA, fC, pA, pC, eA, eC⟩ := x
  simp only at *
  have HZ := Lib.hid hsz
  clear hsz
  obtain ⟨i0, hi0, hz0, hz1, hz2⟩ := info_parts Tryz.infoString
  have hu : Tryz.prog.underlying 22 = some (.slice 9) := by kernel_rfl
  obtain ⟨i1, hi1, hy0, hy1, hy2⟩ := info_parts Tryz.infoLabel
  have hu1 : Tryz.prog.underlying 23 = some (.slice 33) := by kernel_rfl
  have hb0 : Below w.heap.size w ((w.alloc (.cells #[.slice fA fs.length fC, .slice pA ps.length pC, .slice eA es.length eC] 25)).alloc (.cells #[.slice none 0 0, .slice none 0 0, .slice none 0 0] 25)) := bl_alloc (bl_alloc (Below.refl _ _) _) _
  have hbx : Blk ((w.alloc (.cells #[.slice fA fs.length fC, .slice pA ps.length pC, .slice eA es.length eC] 25)).alloc (.cells #[.slice none 0 0, .slice none 0 0, .slice none 0 0] 25)) w.heap.size 25 #[.slice fA fs.length fC, .slice pA ps.length pC, .slice eA es.length eC] := Blk.alloc (Blk.new w _ _) _
  have hbr : Blk ((w.alloc (.cells #[.slice fA fs.length fC, .slice pA ps.length pC, .slice eA es.length eC] 25)).alloc (.cells #[.slice none 0 0, .slice none 0 0, .slice none 0 0] 25)) (w.heap.size + 1) 25 #[.slice none 0 0, .slice none 0 0, .slice none 0 0] := by
    have := Blk.new (w.alloc (.cells #[.slice fA fs.length fC, .slice pA ps.length pC, .slice eA es.length eC] 25)) 25 #[.slice none 0 0, .slice none 0 0, .slice none 0 0]
    simpa using this
  have hs0 : ((w.alloc (.cells #[.slice fA fs.length fC, .slice pA ps.length pC, .slice eA es.length eC] 25)).alloc (.cells #[.slice none 0 0, .slice none 0 0, .slice none 0 0] 25)).heap.size = w.heap.size + 2 := by simp
  go_enter Tryz.func39, Tryz.ntmps39
  go_upto_region 1 with (fail)
  generalize (w.alloc (.cells #[.slice fA fs.length fC, .slice pA ps.length pC, .slice eA es.length eC] 25)).alloc (.cells #[.slice none 0 0, .slice none 0 0, .slice none 0 0] 25) = W0 at *
  have CV0 : CV w W0 fA fs fC pA ps pC eA es eC := ⟨strs_reads (hF.below hb0), strs_reads (hP.below hb0), hbx, hbr, hb0, by omega⟩
  obtain ⟨c0, c1, c2⟩ := CV0.facts
  obtain ⟨d0, d1, d2⟩ := (CV0.alloc (.cells #[.slice none 0 0, .slice none 0 0, .slice none 0 0] 25)).facts
  clear hF hP hbx hbr hb0 hs0
  have CVd := CV0.drew
  have CVa := CVd.alloc (.cells #[.slice none 0 0, .slice none 0 0, .slice none 0 0] 25)
  go_cut [3] from 6 to 12 (fun p3 wx => ∃ g2 fA2 fC2 pA2 pC2, p3 = .pointer (some ⟨g2, 0, none⟩) ∧ XO w wx fA fs fC pA ps pC eA es eC g2 fA2 fC2 pA2 pC2 (.slice none 0 0) [])
  case first =>
   go_region_law (first
    | (refine step_append_any _ (by rfl) _ (.tmp 7) _ (by rfl) (w.heap.size + 2) 9 i0 _ 1 16 hu hi0 hz0 hz1 hz2 rfl (by omega) (.slice none 0 0) 0 [] (by rfl) (World.ownsRow_nil _ _ _ _) w.heap.size fA fs.length fC (fs.flatMap strCell) (by rfl) (by first | exact CVd.f | exact CVa.f) (strs_one fs) (by simp [maxLen]; omega) (by omega) (by first | exact CVd.sz | exact CVa.sz) ?_; intro vf wf hownf hgF hatf; rw [Nat.zero_add, List.nil_append] at hownf; obtain ⟨fA2, fC2, rfl, hrf⟩ := own_rws (f := strCell) (fun _ => rfl) hownf rfl; have CVf : CV w wf fA fs fC pA ps pC eA es eC := (by first | exact CVd.grown hgF | exact CVa.grown hgF); (try (have outF : Blk wf W0.heap.size 25 #[.slice none 0 0, .slice none 0 0, .slice none 0 0] := (Blk.new W0.drew 25 #[.slice none 0 0, .slice none 0 0, .slice none 0 0]).grown hgF (by simp [Value.ownBlock]))); obtain ⟨j0, j1, j2⟩ := CVf.facts; obtain ⟨l0, l1, l2⟩ := (CVf.alloc (.cells #[.slice none 0 0, .slice none 0 0, .slice none 0 0] 25)).facts)
    | (refine step_append_any _ (by rfl) _ (.tmp 10) _ (by rfl) (w.heap.size + 2) 9 i0 _ 1 16 hu hi0 hz0 hz1 hz2 rfl (by omega) (.slice none 0 0) 0 [] (by rfl) (World.ownsRow_nil _ _ _ _) w.heap.size pA ps.length pC (ps.flatMap strCell) (by rfl) (by first | exact CVf.p | exact (CVf.alloc (.cells #[.slice none 0 0, .slice none 0 0, .slice none 0 0] 25)).p) (strs_one ps) (by simp [maxLen]; omega) (by omega) (by first | exact CVf.sz | exact (CVf.alloc (.cells #[.slice none 0 0, .slice none 0 0, .slice none 0 0] 25)).sz) ?_; intro vp wp hownp hgP hatp; rw [Nat.zero_add, List.nil_append] at hownp; obtain ⟨pA2, pC2, rfl, hrp⟩ := own_rws (f := strCell) (fun _ => rfl) hownp rfl; have CVp : CV w wp fA fs fC pA ps pC eA es eC := (by first | exact CVf.grown hgP | exact (CVf.alloc (.cells #[.slice none 0 0, .slice none 0 0, .slice none 0 0] 25)).grown hgP); have hownf2 : wp.ownsRow (w.heap.size + 2) 9 1 (.slice fA2 fs.length fC2) fs.length (fs.flatMap strCell) := (by first | exact hownf.kept hgP (by cases fA2 <;> simp [Value.ownBlock]) | exact (hownf.alloc (.cells #[.slice none 0 0, .slice none 0 0, .slice none 0 0] 25)).kept hgP (by cases fA2 <;> simp [Value.ownBlock])); (try (have outP := (Blk.new wf 25 #[.slice none 0 0, .slice none 0 0, .slice none 0 0]).grown hgP (by simp [Value.ownBlock]))); (try (have outP := outF.grown hgP (by simp [Value.ownBlock]))); (try (have o0 := (Blk.cell outP 0).trans rfl; have o1 := (Blk.cell outP 1).trans rfl; have o2 := (Blk.cell outP 2).trans rfl; have n0 := Blk.frozen outP 0; have n1 := Blk.frozen outP 1; have n2 := Blk.frozen outP 2))))
   all_goals
    go_wp2_with fail
    go_meet
    first
      | exact ⟨_, fA2, fC2, pA2, pC2, rfl, XO.made CVp hownf2 hownp⟩
      | exact ⟨_, fA2, fC2, pA2, pC2, rfl, XO.stores CVp hownf2 hownp outP (by first | exact CVf.sz | exact CV0.sz)⟩
  case rest =>
    obtain ⟨g2, fA2, fC2, pA2, pC2, rfl, hX0⟩ := hcut
    obtain ⟨_, _, c2'⟩ := hX0.cv.facts
    clear CV0 CVd CVa c0 c1 c2 d0 d1 d2
    go_wp2_with fail
    go_loopw [16] (fun i wr => ∃ (k : Nat) (ev : Value), k ≤ es.length ∧ i = .int .i64 k ∧ XO w wr fA fs fC pA ps pC eA es eC g2 fA2 fC2 pA2 pC2 ev (es.take k)) (fun i _ => es.length - (intOf i).toNat)
    case atStart => exact ⟨0, _, by omega, rfl, by rw [List.take_zero]; exact hX0⟩
    case round =>
      obtain ⟨k, ev, hk, rfl, hX⟩ := hrel
      clear hX0 c2'
      have hws := hX.cv.sz
      by_cases hlt : k < es.length
      · have hdk : decide ((k : Int) < (es.length : Int)) = true := decide_eq_true (by omega)
        have hk0 : (0 : Int) ≤ k := by omega
        have hk1 : (k : Int) < (es.length : Int) := by omega
        obtain ⟨b2, off, n, v, rfl, hgb, hx, e0, e1⟩ := lab_at (hE.below hX.cv.bl) hlt
        have hz := HZ.out _ (List.mem_of_getElem? hx)
        have kC1 := fun W => clone_any n W hz.1
        have kC2 := fun W => clone_any v W hz.2
        have HT : Hid (es.take (k + 1) = es.take k ++ [(n, v)]) := Lib.hid (by rw [List.take_add_one, hx]; rfl)
        have hlen : (es.take k).length ≤ k := by rw [List.length_take]; omega
        have X1 := hX.alloc (.cells #[.string n, .string v] 33)
        have T1 := Blk.new wr 33 #[.string n, .string v]
        have hs1 : (wr.alloc (.cells #[.string n, .string v] 33)).heap.size = wr.heap.size + 1 := by simp
        go_upto_region 5 with (fail)
        generalize wr.alloc (.cells #[.string n, .string v] 33) = W1 at *
        generalize wr.heap.size = t at *
        generalize es.take k = acc at *
        have XD := X1.drew
        have TD := T1.drew
        have q0 := (Blk.cell T1 0).trans rfl
        have q1 := (Blk.cell T1 1).trans rfl
        have q2 := X1.facts.1
        clear hx e0 e1 hX hz
        go_region_law (first
          | (go_simp; go_at_call 61; (with_reducible refine (kC1 _).mono ?_); rintro e w5 ⟨rfl, hb5⟩; have X5 := XD.call hb5; have T5 := TD.below hb5 (Blk.lt TD); have r2 := X5.facts.1; have r0 := (Blk.cell T5 0).trans rfl; have r1 := (Blk.cell T5 1).trans rfl)
          | (go_simp; go_at_call 61; (with_reducible refine (kC2 _).mono ?_); rintro e w6 ⟨rfl, hb6⟩; have X6 := X5.call hb6; have s2 := X6.facts.1; have y2 := (X6.alloc (.cells #[.string n, .string v] 33)).facts.1; have z6 := X6.cv.sz)
          | (go_loud (refine step_append_lies _ (by rfl) _ _ _ (by rfl) (w.heap.size + 2) 33 i1 _ 2 32 hu1 hi1 hy0 hy1 hy2 rfl (by omega) ev acc.length (acc.flatMap labCell) (by rfl) (X6.alloc (.cells #[.string n, .string v] 33)).oe ⟨w6.heap.size, 0, none⟩ 1 1 [.string n, .string v] (by rfl) (by rfl) (World.news_of_block (heap_alloc_new w6 _)) (by simp [Value.oneCell']) (by omega) (by simp [maxLen]; omega) (by omega) (by simp; omega) (w6.heap.size + 1) (by simp) ?_); intro gg capg w18 hown18 hgrow hat18 hlt18; go_loud (have XP := (X6.alloc (.cells #[.string n, .string v] 33)).put (x := (n, v)) hgrow hown18); go_loud (obtain ⟨⟨m0, m1⟩, X18⟩ := XP)))
        all_goals
          go_wp2_with fail
          exact ⟨⟨k + 1, _, by omega, rfl, by rw [HT.out]; exact X18⟩, by (simp only [intOf]; omega)⟩
      · have hdk : decide ((k : Int) < (es.length : Int)) = false := decide_eq_false (by omega)
        have hke : k = es.length := by omega
        rw [hke, List.take_length] at hX
        obtain ⟨eA2, eC2, rfl, _⟩ := own_rws (f := labCell) (fun _ => rfl) hX.oe rfl
        have m0 := (Blk.cell hX.out 0).trans rfl
        have m1 := (Blk.cell hX.out 1).trans rfl
        have m2 := (Blk.cell hX.out 2).trans rfl
        have r0 := (Blk.cell hX.cv.br 0).trans rfl
        have r1 := (Blk.cell hX.cv.br 1).trans rfl
        have r2 := (Blk.cell hX.cv.br 2).trans rfl
        have f0 := Blk.frozen hX.cv.br 0
        have f1 := Blk.frozen hX.cv.br 1
        have f2 := Blk.frozen hX.cv.br 2
        have ka := (((Aw.refl [w.heap.size + 1] wr).setCell (p := ⟨w.heap.size + 1, 0, none⟩) (.inl (by simp)) (.slice fA2 fs.length fC2)).setCell (p := ⟨w.heap.size + 1, 1, none⟩) (.inl (by simp)) (.slice pA2 ps.length pC2)).setCell (p := ⟨w.heap.size + 1, 2, none⟩) (.inl (by simp)) (.slice eA2 es.length eC2)
        have hR := Blk.set_ (Blk.set_ (Blk.set_ hX.cv.br 0 (.slice fA2 fs.length fC2)) 1 (.slice pA2 ps.length pC2)) 2 (.slice eA2 es.length eC2)
        have of := own_aw hX.of ka (fun i hi hm => by simp at hm; subst hm; exact own_blk_ne hX.of hX.cv.br (by decide) hi)
        have op := own_aw hX.op ka (fun i hi hm => by simp at hm; subst hm; exact own_blk_ne hX.op hX.cv.br (by decide) hi)
        have oe := own_aw hX.oe ka (fun i hi hm => by simp at hm; subst hm; exact own_blk_ne hX.oe hX.cv.br (by decide) hi)
        have hbl := bl_set (bl_set (bl_set hX.cv.bl (p := ⟨w.heap.size + 1, 0, none⟩) (by simp) (.slice fA2 fs.length fC2)) (p := ⟨w.heap.size + 1, 1, none⟩) (by simp) (.slice pA2 ps.length pC2)) (p := ⟨w.heap.size + 1, 2, none⟩) (by simp) (.slice eA2 es.length eC2)
        have hab : Above w.heap.size ⟨⟨fs, ps, es⟩, fA2, fC2, pA2, pC2, eA2, eC2⟩ := ⟨fun b o e => Nat.le_trans (Nat.le_add_right _ 2) (own_above of b o e), fun b o e => Nat.le_trans (Nat.le_add_right _ 2) (own_above op b o e), fun b o e => Nat.le_trans (Nat.le_add_right _ 2) (own_above oe b o e)⟩
        obtain ⟨_, _, hf1, hf2⟩ := own_rws (f := strCell) (fun _ => rfl) of rfl
        obtain ⟨_, _, hp1, hp2⟩ := own_rws (f := strCell) (fun _ => rfl) op rfl
        obtain ⟨_, _, he1, he2⟩ := own_rws (f := labCell) (fun _ => rfl) oe rfl
        injection hf1 with hf1 hx1 hx2
        clear hx1 hx2
        injection hp1 with hp1 hx1 hx2
        clear hx1 hx2
        injection he1 with he1 hx1 hx2
        clear hx1 hx2
        subst hf1; subst hp1; subst he1
        have b0 := (Blk.cell hR 0).trans rfl
        have b1 := (Blk.cell hR 1).trans rfl
        have b2 := (Blk.cell hR 2).trans rfl
        clear ka of op oe hX
        go_wp2_with fail
        refine bodyPost_ret (v := .agg #[.slice fA2 fs.length fC2, .slice pA2 ps.length pC2, .slice eA2 es.length eC2]) (by simp [results, Tryz.results39, go_sem, b0, b1, b2]) rfl ?_
        exact ⟨⟨⟨⟨fs, ps, es⟩, fA2, fC2, pA2, pC2, eA2, eC2⟩, rfl, rfl, ⟨hf2, hp2, he2⟩, hab⟩, hbl⟩
end Go.Proofs.YtodgfapgmmjpcaaGreatDoor
