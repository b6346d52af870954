/- Families in memory: one that stands, told more of. openread's tells (wip/gen/ordm.py prints it). openread's owner (wip/gen/ordn.py prints it). openread's bound (wip/gen/ordp.py prints it). openread's tags (wip/gen/ordo.py prints it). openread's value (wip/gen/ordq.py prints it). openread's sample (wip/gen/ords.py prints it). openread's all (wip/gen/ordv.py prints it). -/
import Derived.Test.YtcapbikelgcmmaaGreatDoorMgFa9
import Derived.Test.YtcapbikelgcmmaaGreatDoorMgNm9
import Derived.Test.YtcapbikelgcmmaaGreatDoorShelfH
import Derived.Deep.RegionHeld3
import Derived.Test.YtcapbikelgcmmaaGreatDoorMgSum9
import Derived.Test.YtcapbikelgcmmaaGreatDoorMgDec9
import Derived.Test.YtcapbikelgcmmaaGreatDoorLabO
import Derived.Deep.CutRange
import Derived.Deep.RegionLaw
import Derived.Test.YtcapbikelgcmmaaGreatDoorMgPl9
import Derived.Test.YtcapbikelgcmmaaGreatDoorMgOp9
namespace Go.Proofs.YtcapbikelgcmmaaGreatDoor
set_option linter.unusedVariables false
set_option linter.unusedSimpArgs false
open Go.RowKit
section
theorem flat_setk {l : List VFam} {i j : Nat} {x y : VFam} {u : Value} (h : l[i]? = some x) (hj : j < 5) (hy : famCell y = (famCell x).set j u) : (l.flatMap famCell).set (i * 5 + j) u = (l.set i y).flatMap famCell := by
  induction l generalizing i with
  | nil => simp at h
  | cons z r ih =>
    cases i with
    | zero =>
      simp at h; subst h
      rw [List.set_cons_zero, List.flatMap_cons, List.flatMap_cons, hy]
      rw [List.set_append_left _ _ (by show 0 * 5 + j < 5; omega)]
      simp
    | succ i =>
      rw [List.set_cons_succ, List.flatMap_cons, List.flatMap_cons, List.set_append_right _ _ (by show 5 ≤ (i + 1) * 5 + j; omega)]
      have e : (i + 1) * 5 + j - (famCell z).length = i * 5 + j := by show (i + 1) * 5 + j - 5 = _; omega
      rw [e, ih (by simpa using h)]
theorem set_sameP {α : Type} {l : List α} {i : Nat} {x : α} (h : l[i]? = some x) : l.set i x = l := by
  obtain ⟨hi, e⟩ := List.getElem?_eq_some_iff.1 h
  subst e
  exact List.set_getElem_self hi
section
variable {w : World} {base g fc i : Nat} {l : List VFam} {x : VFam}
/-- What stands of a family. -/
theorem FamsAt.cells_ {n : Nat} (h : FamsAt w base (.slice (some ⟨g, 0, none⟩) n fc) l) (hx : l[i]? = some x) : w.cell? ⟨g, i * 5, none⟩ = some (.string x.name) ∧ w.cell? ⟨g, i * 5 + 1, none⟩ = some (.int .i64 (x.kind : Int)) ∧ w.cell? ⟨g, i * 5 + 2, none⟩ = some (.string x.unit) ∧ w.cell? ⟨g, i * 5 + 3, none⟩ = some (.string x.help) ∧ w.cell? ⟨g, i * 5 + 4, none⟩ = some (.slice x.A x.pts.length x.c) := by
  have hi : i < l.length := (List.getElem?_eq_some_iff.1 hx).1
  obtain ⟨A, fc', hv⟩ := h.form
  injection hv with hA hn hc
  subst hA hn
  obtain ⟨b, off, e, hb, hc⟩ := h.rows.2 (by omega)
  injection e with e
  injection e with e5 e6
  subst e5 e6
  refine ⟨?_, ?_, ?_, ?_, ?_⟩
  · have := hc i x 0 _ hx rfl; simpa using this
  · have := hc i x 1 _ hx rfl; simpa using this
  · have := hc i x 2 _ hx rfl; simpa using this
  · have := hc i x 3 _ hx rfl; simpa using this
  · have := hc i x 4 _ hx rfl; simpa using this
theorem FamsAt.fz {n : Nat} (h : FamsAt w base (.slice (some ⟨g, 0, none⟩) n fc) l) (o : Nat) : w.frozen? ⟨g, o, none⟩ = false := by
  obtain ⟨A, fc', hv⟩ := h.form
  injection hv with hA hn hc
  subst hn
  exact h.own.frozenAt o
theorem FamsAt.g_lt {n : Nat} (h : FamsAt w base (.slice (some ⟨g, 0, none⟩) n fc) l) : base ≤ g ∧ g < w.heap.size := h.own.lt g rfl
/-- A family told more of: one cell of it is turned, its points are not. -/
theorem FamsAt.tell {y : VFam} {j : Nat} {u : Value} {n : Nat} (h : FamsAt w base (.slice (some ⟨g, 0, none⟩) n fc) l) (hx : l[i]? = some x) (hj : j < 5) (hy : famCell y = (famCell x).set j u) (hA : y.A = x.A) (hp : y.pts = x.pts) (hc : y.c = x.c) :
    FamsAt (w.setCell ⟨g, i * 5 + j, none⟩ u) base (.slice (some ⟨g, 0, none⟩) n fc) (l.set i y) := by
  obtain ⟨A', fc', hv⟩ := h.form
  injection hv with hA' hn' hc'
  subst hn'
  have hk : Aw [g] w (w.setCell ⟨g, i * 5 + j, none⟩ u) := (Aw.refl _ _).setCell (.inl (by simp)) _
  have hpv : y.pv = x.pv := by unfold VFam.pv; rw [hA, hp, hc]
  have hmem : ∀ f, f ∈ l.set i y → ∃ f', f' ∈ l ∧ f.pv = f'.pv ∧ f.pts = f'.pts := fun f hf => by
    rcases List.mem_or_eq_of_mem_set hf with h1 | h1
    · exact ⟨f, h1, rfl, rfl⟩
    · subst h1; exact ⟨x, List.mem_of_getElem? hx, hpv, hp⟩
  have hfar : ∀ {e : TypeId} {size n : Nat} {v : Value} {xs : List Value}, w.ownsRow base e size v n xs → e ≠ 68 → (w.setCell ⟨g, i * 5 + j, none⟩ u).ownsRow base e size v n xs := fun h' he => own_aw h' hk (fun b hb hs => by
    rw [List.mem_singleton] at hs; subst hs
    exact own_own_ne h' h.own he b hb rfl)
  refine ⟨?_, fun f hf => ?_, ?_, fun f hf z hz => ?_⟩
  · have h1 := (h.own.stored (i * 5 + j) u).1
    rw [flat_setk (y := y) hx hj hy] at h1
    rw [List.length_set]
    exact h1
  · obtain ⟨f', hf', e1, e2⟩ := hmem f hf
    rw [e1, e2]
    exact hfar (h.pts f' hf') (by decide)
  · rw [List.pairwise_iff_getElem]
    intro a b ha hb hab k hk1 hk2
    rw [List.length_set] at ha hb
    have hd := List.pairwise_iff_getElem.1 h.dis a b ha hb hab
    obtain ⟨hi, e0⟩ := List.getElem?_eq_some_iff.1 hx
    have hq : ∀ m (hm : m < l.length), (l.set i y)[m]'(by rw [List.length_set]; exact hm) = l[m] ∨ ((l.set i y)[m]'(by rw [List.length_set]; exact hm) = y ∧ l[m] = x) := fun m hm => by
      rw [List.getElem_set]
      split
      · rename_i e; subst e; exact .inr ⟨rfl, e0⟩
      · exact .inl rfl
    have hv : ∀ m (hm : m < l.length), ((l.set i y)[m]'(by rw [List.length_set]; exact hm)).pv = l[m].pv := fun m hm => by
      rcases hq m hm with e | ⟨e, e1⟩
      · rw [e]
      · rw [e, e1, hpv]
    rw [hv a ha] at hk1
    rw [hv b hb] at hk2
    exact hd k hk1 hk2
  · obtain ⟨f', hf', e1, e2⟩ := hmem f hf
    rw [e2] at hz
    exact hfar (h.lab f' hf' z hz) (by decide)
end
end
section
theorem onLast_set {fs : List VFam} {i : Nat} {X Y : VFam} {f : MFam → MFam} (hi : fs.length = i + 1) (hX : fs[i]? = some X) (hY : Y.fam = f X.fam) : (fs.set i Y).map VFam.fam = onLast (fs.map VFam.fam) f := by
  have hne : fs ≠ [] := fun e => by rw [e] at hi; simp at hi
  obtain ⟨L, Z, rfl⟩ : ∃ L Z, fs = L ++ [Z] := ⟨fs.dropLast, fs.getLast hne, (List.dropLast_concat_getLast hne).symm⟩
  have hL : i = L.length := by simp at hi; omega
  subst hL
  rw [List.getElem?_append_right (Nat.le_refl _), Nat.sub_self] at hX
  simp at hX
  subst hX
  rw [List.set_append_right _ _ (Nat.le_refl _), Nat.sub_self, List.set_cons_zero]
  unfold onLast
  simp [hY]
theorem OOk.turn {fs : List VFam} {N i : Nat} {X Y : VFam} (h : OOk fs N) (hX : fs[i]? = some X) (hn : Y.name = X.name) (hk : Y.kind ≤ 4) (hp : Y.pts = X.pts) : OOk (fs.set i Y) N :=
  ⟨by rw [List.length_set]; exact h.len, h.num, fun f hf => by
    rcases List.mem_or_eq_of_mem_set hf with h1 | h1
    · exact h.fam f h1
    · subst h1
      obtain ⟨q1, _, q3, q4⟩ := h.fam X (List.mem_of_getElem? hX)
      exact ⟨by rw [hn]; exact q1, hk, by rw [hp]; exact q3, by rw [hp]; exact q4⟩⟩
theorem kindO_le {l : List UInt8} {k : Nat} (h : kindO l = some k) : k ≤ 4 := by
  unfold kindO at h
  split at h
  · injection h; omega
  · cases h
theorem namedO_ne {q q' : ORd} {x : MRow} (h : namedO q x = .ok q') : ∃ n, q'.fams.length = n + 1 := by
  unfold namedO at h
  split at h
  · cases h
  split at h
  · split at h
    · rename_i f hf
      split at h
      · cases h
      · injection h with h; subst h
        have : q.fams ≠ [] := fun e => by rw [e] at hf; simp at hf
        exact ⟨q.fams.length - 1, by have := List.length_pos_iff.2 this; show q.fams.length = _; omega⟩
    · cases h
  · split at h
    · cases h
    · injection h with h; subst h
      exact ⟨q.fams.length, by show (q.fams ++ [newF x.name]).length = _; simp⟩
theorem RowAt.facts2 {w : World} {b : Nat} {x : VRow} (h : RowAt w b x) : w.cell? ⟨b, 0, none⟩ = some (.int .i64 x.row.kind) ∧ w.cell? ⟨b, 1, none⟩ = some (.string x.row.name) ∧ w.cell? ⟨b, 2, none⟩ = some (.int .i64 x.row.off) ∧ w.cell? ⟨b, 3, none⟩ = some (.slice x.tA x.row.tags.length x.tc) ∧ w.cell? ⟨b, 4, none⟩ = some (.slice x.fA x.row.fields.length x.fc) ∧ w.cell? ⟨b, 5, none⟩ = some (.string x.row.text) ∧ w.cell? ⟨b, 6, none⟩ = some (.int .i64 x.row.pos) ∧ w.cell? ⟨b, 7, none⟩ = some (.bool x.row.timed) ∧ w.cell? ⟨b, 8, none⟩ = some (.string x.row.time) ∧ w.cell? ⟨b, 9, none⟩ = some (.int .i64 x.row.when_) :=
  ⟨(Blk.cell h 0).trans rfl, (Blk.cell h 1).trans rfl, (Blk.cell h 2).trans rfl, (Blk.cell h 3).trans rfl, (Blk.cell h 4).trans rfl, (Blk.cell h 5).trans rfl, (Blk.cell h 6).trans rfl, (Blk.cell h 7).trans rfl, (Blk.cell h 8).trans rfl, (Blk.cell h 9).trans rfl⟩
/-- A family told more of, in the reader. -/
theorem OA.tell {w0 w : World} {r N g fc i j n : Nat} {c o l k : Int} {s : ByteArray} {fs : List VFam} {t1 t2 t3 : Bool} {X Y : VFam} {u : Value} (h : OA w0 w r c o l k s (.slice (some ⟨g, 0, none⟩) n fc) fs t1 t2 t3 N) (hX : fs[i]? = some X) (hj : j < 5) (hy : famCell Y = (famCell X).set j u) (hA : Y.A = X.A) (hp : Y.pts = X.pts) (hc : Y.c = X.c) :
    OA w0 (w.setCell ⟨g, i * 5 + j, none⟩ u) r c o l k s (.slice (some ⟨g, 0, none⟩) n fc) (fs.set i Y) t1 t2 t3 N := by
  have hg := h.fams.g_lt
  have hrl := h.rl
  exact ⟨h.rd.far (p := ⟨g, i * 5 + j, none⟩) (by show r ≠ g; omega) u, h.fams.tell hX hj hy hA hp hc, h.aw.setCell (.inr (by show w0.heap.size ≤ g; exact hg.1)) u, h.rl⟩
set_option maxRecDepth 100000 in
set_option maxHeartbeats 6400000 in
theorem otells_all (r : Nat) (c o l k : Int) (s : ByteArray) (fv : Value) (fs : List VFam) (t1 t2 t3 : Bool) (N : Nat) (x : VRow) (w0 w : World) (h : OA w0 w r c o l k s fv fs t1 t2 t3 N) (hs : s.size ≤ 1048576) (kf : OOk fs N) (hk : x.row.kind = 1 ∨ x.row.kind = 2 ∨ x.row.kind = 3) (hnm : x.row.name.size ≤ 1048576) (htx : x.row.text.size ≤ 1048576) :
    Calls Tryz.prog 44 #[.pointer (some ⟨r, 0, none⟩), .agg #[.int .i64 x.row.kind, .string x.row.name, .int .i64 x.row.off, .slice x.tA x.row.tags.length x.tc, .slice x.fA x.row.fields.length x.fc, .string x.row.text, .int .i64 x.row.pos, .bool x.row.timed, .string x.row.time, .int .i64 x.row.when_]] w fun e w' => RowP w0 w' r c o l k s (tellsO ⟨fs.map VFam.fam, t1, t2, t3, N⟩ x.row) e := by
  have h1 := h.alloc (.cells #[.int .i64 x.row.kind, .string x.row.name, .int .i64 x.row.off, .slice x.tA x.row.tags.length x.tc, .slice x.fA x.row.fields.length x.fc, .string x.row.text, .int .i64 x.row.pos, .bool x.row.timed, .string x.row.time, .int .i64 x.row.when_] 43)
  have hR : RowAt _ w.heap.size x := Blk.new w 43 #[.int .i64 x.row.kind, .string x.row.name, .int .i64 x.row.off, .slice x.tA x.row.tags.length x.tc, .slice x.fA x.row.fields.length x.fc, .string x.row.text, .int .i64 x.row.pos, .bool x.row.timed, .string x.row.time, .int .i64 x.row.when_]
  have hrb : w.heap.size ≠ r := by have := h.rd.lt; omega
  have kN := onamed_all r c o l k s fv fs t1 t2 t3 N x w0 _ h1 hs kf hk
  obtain ⟨R, hRR⟩ : ∃ R, tellsO ⟨fs.map VFam.fam, t1, t2, t3, N⟩ x.row = R := ⟨_, rfl⟩
  rw [hRR]
  unfold tellsO at hRR
  clear h h1
  cases hno : namedO ⟨fs.map VFam.fam, t1, t2, t3, N⟩ x.row with
  | error e0 =>
    rw [hno] at kN hRR
    simp only at hRR
    subst hRR
    have kN2 := kN.mono (R' := fun e w' => e = .returned (.bool false) ∧ (∃ fv t1 t2 t3 N, Obf w' r e0.1 e0.2 s fv t1 t2 t3 N) ∧ Aw [r] w0 w') (fun e w' hh => hh.1)
    clear kN hno
    obtain ⟨c0, c1, c2, c3, c4, c5, c6, c7, c8, c9⟩ := hR.facts2
    go_enter Tryz.func44, Tryz.ntmps44
    go_wp2_with (go_at_call 81; (with_reducible refine kN2.mono ?_); rintro e w2 ⟨rfl, hf2, hA2⟩)
    go_ret
    exact ⟨rfl, hf2, hA2⟩
  | ok q =>
    rw [hno] at kN hRR
    simp only at hRR
    have kN2 := kN.mono (R' := fun e w' => e = .returned (.bool true) ∧ (∃ fv fs, fs.map VFam.fam = q.fams ∧ OA w0 w' r c o l k s fv fs q.t1 q.t2 q.t3 q.pts ∧ OOk fs q.pts) ∧ Keep r (w.alloc (.cells #[.int .i64 x.row.kind, .string x.row.name, .int .i64 x.row.off, .slice x.tA x.row.tags.length x.tc, .slice x.fA x.row.fields.length x.fc, .string x.row.text, .int .i64 x.row.pos, .bool x.row.timed, .string x.row.time, .int .i64 x.row.when_] 43)) w') (fun e w' hh => ⟨hh.1.1, hh.1.2, hh.2 ⟨q, rfl⟩⟩)
    obtain ⟨i, hqi⟩ := namedO_ne hno
    clear kN hno
    obtain ⟨c0, c1, c2, c3, c4, c5, c6, c7, c8, c9⟩ := hR.facts2
    have HR := Lib.hid hRR
    clear hRR
    go_enter Tryz.func44, Tryz.ntmps44
    go_upto_region 3 with (go_at_call 81; (with_reducible refine kN2.mono ?_); rintro e w2 ⟨rfl, ⟨fv2, fs2, hq2, hO2, hK2⟩, hkp⟩; have hR2 : RowAt w2 w.heap.size x := hkp _ _ _ hR hrb (by decide))
    have hi : fs2.length = i + 1 := by rw [← hqi, ← hq2, List.length_map]
    obtain ⟨X, hX⟩ : ∃ X, fs2[i]? = some X := ⟨fs2[i], List.getElem?_eq_getElem (by omega)⟩
    have hl2 := hK2.len
    obtain ⟨g, fc, rfl, hg, kS⟩ := stands_last r c o l k s fv2 fs2 q.t1 q.t2 q.t3 q.pts i w0 w2 hO2 hi (by omega)
    clear kN2 hkp c0 c1 c2 c3 c4 c5 c6 c7 c8 c9 hR
    go_upto_block 0 with (go_at_call 75; (with_reducible refine kS.mono ?_); rintro e w3 ⟨rfl, hA3⟩; have hO3 := hO2.call hA3; have hR3 := hR2.aw hA3 (by simp))
    obtain ⟨c0, c1, c2, c3, c4, c5, c6, c7, c8, c9⟩ := hR3.facts2
    have kF13 : ∀ W, Ob W r c o l k s (.slice (some ⟨g, 0, none⟩) (i + 1) fc) q.t1 q.t2 q.t3 q.pts → Calls Tryz.prog 76 #[.pointer (some ⟨r, 0, none⟩), .int .i64 13, .int .i64 (x.row.pos : Int)] W fun e w' => e = .returned (.bool false) ∧ Obf w' r 13 x.row.pos s (.slice (some ⟨g, 0, none⟩) (i + 1) fc) q.t1 q.t2 q.t3 q.pts ∧ Aw [r] W w' := fun W h => ofails_any r c o l k s _ q.t1 q.t2 q.t3 q.pts 13 x.row.pos W h hs
    have kF14 : ∀ W, Ob W r c o l k s (.slice (some ⟨g, 0, none⟩) (i + 1) fc) q.t1 q.t2 q.t3 q.pts → Calls Tryz.prog 76 #[.pointer (some ⟨r, 0, none⟩), .int .i64 14, .int .i64 (x.row.pos : Int)] W fun e w' => e = .returned (.bool false) ∧ Obf w' r 14 x.row.pos s (.slice (some ⟨g, 0, none⟩) (i + 1) fc) q.t1 q.t2 q.t3 q.pts ∧ Aw [r] W w' := fun W h => ofails_any r c o l k s _ q.t1 q.t2 q.t3 q.pts 14 x.row.pos W h hs
    clear hR2 hO2 kS hA3 hg
    by_cases hk1 : x.row.kind = 1
    · have hkz : (x.row.kind : Int) = 1 := by rw [hk1]; rfl
      rw [hkz] at c0
      have hr := HR.out
      rw [if_pos hk1] at hr
      have kK := fun W => okind_any x.row.text W
      cases hko : kindO x.row.text.data.toList with
      | none =>
        rw [hko] at kK hr
        simp only at hr
        unfold kindV at kK
        simp only at kK
        subst hr
        clear hk HR hk1 hkz
        go_wp2_with (first
          | (go_at_call 82; (with_reducible refine (kK _).mono ?_); rintro e w4 ⟨rfl, hb4⟩; have hA4 : Aw [] w3 w4 := Aw.ofBelow hb4; have hO4 := hO3.call hA4; have hR4 := hR3.aw hA4 (by simp); obtain ⟨d0, d1, d2, d3, d4, d5, d6, d7, d8, d9⟩ := hR4.facts2)
          | (go_at_call 76; (with_reducible refine (kF13 _ hO4.rd).mono ?_); rintro e w5 ⟨rfl, h5, hA5⟩))
        go_ret
        exact ⟨rfl, ⟨_, _, _, _, _, h5⟩, hO4.aw.trans hA5⟩
      | some kk =>
        rw [hko] at kK hr
        simp only at hr
        unfold kindV at kK
        simp only at kK
        have hkk := kindO_le hko
        have HR2 := Lib.hid hr
        clear hk HR hk1 hkz hr hko
        go_wp2_with (go_at_call 82; (with_reducible refine (kK _).mono ?_); rintro e w4 ⟨rfl, hb4⟩; have hA4 : Aw [] w3 w4 := Aw.ofBelow hb4; have hO4 := hO3.call hA4; obtain ⟨x0, x1, x2, x3, x4⟩ := hO4.fams.cells_ hX; have z1 := hO4.fams.fz (i * 5 + 1))
        go_ret
        rw [← HR2.out]
        have hO5 := hO4.tell (Y := { X with kind := kk }) (j := 1) (u := .int .i64 (kk : Int)) hX (by omega) rfl rfl rfl rfl
        exact ⟨rfl, _, _, by rw [← hq2]; exact onLast_set hi hX rfl, hO5, hK2.turn hX rfl hkk rfl⟩
    · have hr := HR.out
      rw [if_neg hk1] at hr
      have g1 : ((x.row.kind : Int) == 1) = false := by rw [beq_eq_false_iff_ne]; omega
      by_cases h60 : 60 < x.row.text.size
      · have d60 : decide ((60 : Int) < (x.row.text.size : Int)) = true := decide_eq_true (by omega)
        have d60n : decide (60 < x.row.text.size) = true := decide_eq_true h60
        rw [if_pos h60] at hr
        subst hr
        clear hk HR hk1 h60
        go_wp2_with (go_at_call 76; (with_reducible refine (kF14 _ hO3.rd).mono ?_); rintro e w5 ⟨rfl, h5, hA5⟩)
        go_ret
        exact ⟨rfl, ⟨_, _, _, _, _, h5⟩, hO3.aw.trans hA5⟩
      rw [if_neg h60] at hr
      have d60 : decide ((60 : Int) < (x.row.text.size : Int)) = false := decide_eq_false (by omega)
      have d60n : decide (60 < x.row.text.size) = false := decide_eq_false h60
      obtain ⟨x0, x1, x2, x3, x4⟩ := hO3.fams.cells_ hX
      have z2 := hO3.fams.fz (i * 5 + 2)
      have z3 := hO3.fams.fz (i * 5 + 3)
      have hXk := (hK2.fam X (List.mem_of_getElem? hX)).2.1
      by_cases hk3 : x.row.kind = 3
      · have hkz : (x.row.kind : Int) = 3 := by rw [hk3]; rfl
        rw [hkz] at c0 g1
        rw [if_pos hk3] at hr
        have HR2 := Lib.hid hr
        clear hk HR hk1 hkz hr hk3 h60
        go_wp2_with fail
        go_ret
        rw [← HR2.out]
        have hO5 := hO3.tell (Y := { X with help := x.row.text }) (j := 3) (u := .string x.row.text) hX (by omega) rfl rfl rfl rfl
        exact ⟨rfl, _, _, by rw [← hq2]; exact onLast_set hi hX rfl, hO5, hK2.turn hX rfl hXk rfl⟩
      · rw [if_neg hk3] at hr
        have g3 : ((x.row.kind : Int) == 3) = false := by rw [beq_eq_false_iff_ne]; omega
        have hsz : ¬ 9223372036854775807 < 1 + x.row.text.size := by omega
        have kH : ∀ W, Calls Tryz.prog 83 #[.string x.row.name, .string (⟨#[95]⟩ ++ x.row.text)] W fun e w' => e = .returned (.bool (endsO' x.row.name.data.toList (95 :: x.row.text.data.toList))) ∧ w' = W := fun W => by
          have e0 := Tryz.strings_HasSuffix x.row.name (⟨#[95]⟩ ++ x.row.text) W (by omega)
          have e1 : endsO' x.row.name.data.toList (95 :: x.row.text.data.toList) = Lib.hasSuffix x.row.name.data.toList ((⟨#[95]⟩ : ByteArray) ++ x.row.text).data.toList := by
            rw [← Lib.hasSuffix_of_drop]
            unfold endsO'
            simp
          rw [e1]
          exact e0
        cases hsf : endsO' x.row.name.data.toList (95 :: x.row.text.data.toList)
        · rw [hsf] at hr kH
          simp only [Bool.not_false, if_true] at hr
          subst hr
          clear hk HR hk1 hk3 h60 hsf
          go_wp2_with (first
            | (go_at_call 83; (with_reducible refine (kH _).mono ?_); rintro e w4 ⟨rfl, hw4⟩; rw [hw4]; clear hw4 w4)
            | (go_at_call 76; (with_reducible refine (kF13 _ hO3.rd).mono ?_); rintro e w5 ⟨rfl, h5, hA5⟩))
          go_ret
          exact ⟨rfl, ⟨_, _, _, _, _, h5⟩, hO3.aw.trans hA5⟩
        · rw [hsf] at hr kH
          simp only [Bool.not_true, Bool.false_eq_true, if_false] at hr
          have HR2 := Lib.hid hr
          clear hk HR hk1 hr hk3 h60 hsf
          go_wp2_with (go_at_call 83; (with_reducible refine (kH _).mono ?_); rintro e w4 ⟨rfl, hw4⟩; rw [hw4]; clear hw4 w4)
          go_ret
          rw [← HR2.out]
          have hO5 := hO3.tell (Y := { X with unit := x.row.text }) (j := 2) (u := .string x.row.text) hX (by omega) rfl rfl rfl rfl
          exact ⟨rfl, _, _, by rw [← hq2]; exact onLast_set hi hX rfl, hO5, hK2.turn hX rfl hXk rfl⟩
end
section
theorem belZ_belO (f : MFam) (s : List UInt8) (hk : f.kind ≤ 4) : belZ f.name.data.toList (f.kind : Int) s = (belO f s).map (fun n : Nat => (n : Int)) := by
  obtain ⟨nm, k, u, hp, ps⟩ := f
  simp only at hk
  unfold belZ belO
  simp only
  obtain rfl | rfl | rfl | rfl | rfl : k = 0 ∨ k = 1 ∨ k = 2 ∨ k = 3 ∨ k = 4 := by omega
  all_goals
    simp only [rolesZ, rolesK]
    simp [List.find?_cons, sufZ, sufK]
    (repeat' split) <;> simp_all
/-- What owner does. -/
def OwnerP (w0 w w' : World) (r : Nat) (c o l k : Int) (s : ByteArray) : Except OErr (Nat × ORd) → Ending → Prop
  | .error x, en => en = .returned (.tuple #[.int .i64 0, .bool false]) ∧ (∃ fv t1 t2 t3 N, Obf w' r x.1 x.2 s fv t1 t2 t3 N) ∧ Aw [r] w0 w'
  | .ok (role, q), en => en = .returned (.tuple #[.int .i64 (role : Int), .bool true]) ∧ (∃ fv fs, fs.map VFam.fam = q.fams ∧ OA w0 w' r c o l k s fv fs q.t1 q.t2 q.t3 q.pts ∧ OOk fs q.pts ∧ ∃ i, fs.length = i + 1) ∧ Keep r w w'
theorem OwnerP.ofO {w0 w w' : World} {r : Nat} {c o l k : Int} {s : ByteArray} {q : ORd} {role : Nat} {en : Ending} (h : en = .returned (.tuple #[.int .i64 (role : Int), .bool true]) ∧ (∃ fv fs, fs.map VFam.fam = q.fams ∧ OA w0 w' r c o l k s fv fs q.t1 q.t2 q.t3 q.pts ∧ OOk fs q.pts ∧ ∃ i, fs.length = i + 1) ∧ Keep r w w') : OwnerP w0 w w' r c o l k s (.ok (role, q)) en := h
set_option maxRecDepth 100000 in
set_option maxHeartbeats 6400000 in
theorem oowner_all (r : Nat) (c o l k : Int) (s : ByteArray) (fv : Value) (fs : List VFam) (t1 t2 t3 : Bool) (N : Nat) (x : VRow) (w0 w : World) (h : OA w0 w r c o l k s fv fs t1 t2 t3 N) (hs : s.size ≤ 1048576) (kf : OOk fs N) :
    Calls Tryz.prog 73 #[.pointer (some ⟨r, 0, none⟩), .agg #[.int .i64 x.row.kind, .string x.row.name, .int .i64 x.row.off, .slice x.tA x.row.tags.length x.tc, .slice x.fA x.row.fields.length x.fc, .string x.row.text, .int .i64 x.row.pos, .bool x.row.timed, .string x.row.time, .int .i64 x.row.when_]] w fun e w' => OwnerP w0 w w' r c o l k s (ownerO ⟨fs.map VFam.fam, t1, t2, t3, N⟩ x.row) e := by
  have h1 := h.alloc (.cells #[.int .i64 x.row.kind, .string x.row.name, .int .i64 x.row.off, .slice x.tA x.row.tags.length x.tc, .slice x.fA x.row.fields.length x.fc, .string x.row.text, .int .i64 x.row.pos, .bool x.row.timed, .string x.row.time, .int .i64 x.row.when_] 43)
  have hR : RowAt _ w.heap.size x := Blk.new w 43 #[.int .i64 x.row.kind, .string x.row.name, .int .i64 x.row.off, .slice x.tA x.row.tags.length x.tc, .slice x.fA x.row.fields.length x.fc, .string x.row.text, .int .i64 x.row.pos, .bool x.row.timed, .string x.row.time, .int .i64 x.row.when_]
  have hrb : w.heap.size ≠ r := by have := h.rd.lt; omega
  have hKP1 : Keep r w (w.alloc (.cells #[.int .i64 x.row.kind, .string x.row.name, .int .i64 x.row.off, .slice x.tA x.row.tags.length x.tc, .slice x.fA x.row.fields.length x.fc, .string x.row.text, .int .i64 x.row.pos, .bool x.row.timed, .string x.row.time, .int .i64 x.row.when_] 43)) := fun b t cs hB _ _ => Blk.alloc hB _
  have hl := kf.len
  obtain ⟨R, hRR⟩ : ∃ R, ownerO ⟨fs.map VFam.fam, t1, t2, t3, N⟩ x.row = R := ⟨_, rfl⟩
  rw [hRR]
  unfold ownerO at hRR
  clear h
  cases hfl : fs.length with
  | zero =>
    obtain rfl : fs = [] := List.length_eq_zero_iff.1 hfl
    have hRR2 := hRR
    simp only [List.map_nil, List.getLast?_nil] at hRR2
    have kS := stands_nil r c o l k s fv t1 t2 t3 N w0 _ h1
    have HR : Hid ((if 60 < x.row.name.size then Except.error (14, x.row.off) else if knownO (([] : List VFam).map VFam.fam) x.row.name.data.toList then Except.error (13, x.row.off) else if 30 ≤ (([] : List VFam).map VFam.fam).length then Except.error (14, x.row.off) else Except.ok (0, beginO ⟨([] : List VFam).map VFam.fam, t1, t2, t3, N⟩ x.row.name)) = R) := Lib.hid hRR2
    clear hRR hRR2 hfl
    have kF13 : ∀ W, Ob W r c o l k s fv t1 t2 t3 N → Calls Tryz.prog 76 #[.pointer (some ⟨r, 0, none⟩), .int .i64 13, .int .i64 (x.row.off : Int)] W fun e w' => e = .returned (.bool false) ∧ Obf w' r 13 x.row.off s fv t1 t2 t3 N ∧ Aw [r] W w' := fun W h => ofails_any r c o l k s _ t1 t2 t3 N 13 x.row.off W h hs
    have kF14 : ∀ W, Ob W r c o l k s fv t1 t2 t3 N → Calls Tryz.prog 76 #[.pointer (some ⟨r, 0, none⟩), .int .i64 14, .int .i64 (x.row.off : Int)] W fun e w' => e = .returned (.bool false) ∧ Obf w' r 14 x.row.off s fv t1 t2 t3 N ∧ Aw [r] W w' := fun W h => ofails_any r c o l k s _ t1 t2 t3 N 14 x.row.off W h hs
    generalize hfs : ([] : List VFam) = fs at *
    go_enter Tryz.func73, Tryz.ntmps73
    go_upto_block 0 with (go_at_call 75; (with_reducible refine kS.mono ?_); rintro e w2 ⟨rfl, hA2⟩; have hO2 := h1.call hA2; have hR2 := hR.aw hA2 (by simp))
    obtain ⟨c0, c1, c2, c3, c4, c5, c6, c7, c8, c9⟩ := hR2.facts2
    have hKP2 : Keep r w w2 := fun b t cs hB hbr ht => Blk.aw (hKP1 b t cs hB hbr ht) hA2 (by simp)
    clear h1 hR hA2 kS hKP1 hfs
    by_cases h60 : 60 < x.row.name.size
    · have d60 : decide ((60 : Int) < (x.row.name.size : Int)) = true := decide_eq_true (by omega)
      have d60n : decide (60 < x.row.name.size) = true := decide_eq_true h60
      have hr := HR.out
      rw [if_pos h60] at hr
      subst hr
      clear HR h60
      go_wp2_with (go_at_call 76; (with_reducible refine (kF14 _ hO2.rd).mono ?_); rintro e w5 ⟨rfl, h5, hA5⟩)
      go_ret2
      exact ⟨rfl, ⟨_, _, _, _, _, h5⟩, hO2.aw.trans hA5⟩
    have d60 : decide ((60 : Int) < (x.row.name.size : Int)) = false := decide_eq_false (by omega)
    have d60n : decide (60 < x.row.name.size) = false := decide_eq_false h60
    have HR2 := HR.out
    rw [if_neg h60] at HR2
    have kK := fun W h => known_any r c o l k s fv fs t1 t2 t3 N x.row.name w0 W h (by omega)
    cases hkn : knownO (fs.map VFam.fam) x.row.name.data.toList
    case true =>
      rw [hkn] at HR2 kK
      rw [if_pos rfl] at HR2
      subst HR2
      clear HR h60 hkn
      go_wp2_with (first
        | (go_at_call 121; (with_reducible refine (kK _ hO2).mono ?_); rintro e w6 ⟨rfl, hA6⟩; have hO6 := hO2.call hA6; have hR6 := hR2.aw hA6 (by simp); obtain ⟨k0, k1, k2, k3, k4, k5, k6, k7, k8, k9⟩ := hR6.facts2)
        | (go_at_call 76; (with_reducible refine (kF13 _ hO6.rd).mono ?_); rintro e w5 ⟨rfl, h5, hA5⟩))
      go_ret2
      exact ⟨rfl, ⟨_, _, _, _, _, h5⟩, hO6.aw.trans hA5⟩
    rw [hkn] at HR2 kK
    rw [if_neg (by decide)] at HR2
    by_cases hf : 30 ≤ fs.length
    · rw [if_pos (by simpa using hf)] at HR2
      subst HR2
      have kB := fun W h => begins_full r c o l k s fv fs t1 t2 t3 N x.row.name w0 W h hf
      clear HR h60 hkn hf
      go_wp2_with (first
        | (go_at_call 121; (with_reducible refine (kK _ hO2).mono ?_); rintro e w6 ⟨rfl, hA6⟩; have hO6 := hO2.call hA6; have hR6 := hR2.aw hA6 (by simp); obtain ⟨k0, k1, k2, k3, k4, k5, k6, k7, k8, k9⟩ := hR6.facts2)
        | (go_at_call 122; (with_reducible refine (kB _ hO6).mono ?_); rintro e w7 ⟨rfl, hA7⟩; have hO7 := hO6.call hA7; have hR7 := hR6.aw hA7 (by simp); obtain ⟨l0, l1, l2, l3, l4, l5, l6, l7, l8, l9⟩ := hR7.facts2)
        | (go_at_call 76; (with_reducible refine (kF14 _ hO7.rd).mono ?_); rintro e w5 ⟨rfl, h5, hA5⟩))
      go_ret2
      exact ⟨rfl, ⟨_, _, _, _, _, h5⟩, hO7.aw.trans hA5⟩
    · rw [if_neg (by simpa using hf)] at HR2
      have kB := fun W h => begins_any r c o l k s fv fs t1 t2 t3 N x.row.name w0 W h (by omega)
      have HQ := Lib.hid HR2
      have hO9 := kf.push (n := x.row.name) (by omega) (by omega)
      clear HR h60 hkn hf HR2
      go_wp2_with (first
        | (go_at_call 121; (with_reducible refine (kK _ hO2).mono ?_); rintro e w6 ⟨rfl, hA6⟩; have hO6 := hO2.call hA6; have hR6 := hR2.aw hA6 (by simp); obtain ⟨k0, k1, k2, k3, k4, k5, k6, k7, k8, k9⟩ := hR6.facts2)
        | (go_at_call 122; (with_reducible refine (kB _ hO6).mono ?_); rintro e w7 ⟨rfl, fv7, hO7, hkq⟩))
      go_ret2
      rw [← HQ.out]
      exact ⟨rfl, ⟨fv7, _, by simp [vnew, newF, VFam.fam, beginO], hO7, hO9, fs.length, by simp⟩, fun b t cs hB hbr ht => hkq b t cs (Blk.aw (hKP2 b t cs hB hbr ht) hA6 (by simp)) hbr ht⟩
  | succ i =>
    obtain ⟨X, hX⟩ : ∃ X, fs[i]? = some X := ⟨fs[i], List.getElem?_eq_getElem (by omega)⟩
    have hlast : (fs.map VFam.fam).getLast? = some X.fam := by
      rw [List.getLast?_eq_getElem?, List.length_map, hfl, Nat.add_sub_cancel, List.getElem?_map, hX]; rfl
    obtain ⟨qx1, qx2, qx3, qx4⟩ := kf.fam X (List.mem_of_getElem? hX)
    simp only [hlast] at hRR
    obtain ⟨g, fc, rfl, hg, kS⟩ := stands_last r c o l k s fv fs t1 t2 t3 N i w0 _ h1 hfl (by omega)
    have kB := fun W => belongs_any X.name X.unit X.help (X.kind : Int) x.row.name W (by omega)
    have eB : belZ X.name.data.toList (X.kind : Int) x.row.name.data.toList = (belO X.fam x.row.name.data.toList).map (fun n : Nat => (n : Int)) := belZ_belO X.fam x.row.name.data.toList qx2
    rw [eB] at kB
    clear eB
    have HR0 := Lib.hid hRR
    clear hRR hlast
    go_enter Tryz.func73, Tryz.ntmps73
    go_upto_region 3 with (go_at_call 75; (with_reducible refine kS.mono ?_); rintro e w2 ⟨rfl, hA2⟩; have hO2 := h1.call hA2; have hR2 := hR.aw hA2 (by simp))
    obtain ⟨x0, x1, x2, x3, x4⟩ := hO2.fams.cells_ hX
    obtain ⟨c0, c1, c2, c3, c4, c5, c6, c7, c8, c9⟩ := hR2.facts2
    have hKP2 : Keep r w w2.drew := fun b t cs hB hbr ht => Blk.aw (Blk.aw (hKP1 b t cs hB hbr ht) hA2 (by simp)) (Aw.refl [] w2).drew (by simp)
    have hS0 : (w2.drew.cell? ⟨w.heap.size, 1, none⟩ = some (.string x.row.name) ∧ w2.drew.cell? ⟨g, i * 5, none⟩ = some (.string X.name) ∧ w2.drew.cell? ⟨g, i * 5 + 1, none⟩ = some (.int .i64 (X.kind : Int)) ∧ w2.drew.cell? ⟨g, i * 5 + 2, none⟩ = some (.string X.unit) ∧ w2.drew.cell? ⟨g, i * 5 + 3, none⟩ = some (.string X.help)) ∧ Aw [] w2.drew w2.drew := ⟨⟨c1, x0, x1, x2, x3⟩, Aw.refl [] _⟩
    have HO : Hid (∀ W, Aw [] w2.drew W → OA w0 W r c o l k s (.slice (some ⟨g, 0, none⟩) (i + 1) fc) fs t1 t2 t3 N) := Lib.hid (fun W hA => hO2.drew.call hA)
    have HRB : Hid (∀ W, Aw [] w2.drew W → RowAt W w.heap.size x) := Lib.hid (fun W hA => (hR2.aw (Aw.refl [] w2).drew (by simp)).aw hA (by simp))
    have HX := Lib.hid hX
    have HKP := Lib.hid hKP2
    clear kS h1 hR hR2 hA2 hO2 hKP1 hKP2 c0 c1 c2 c3 c4 c5 c6 c7 c8 c9 x0 x1 x2 x3 x4 hX hg
    have hst : ∀ W, Aw [] w2.drew W → (W.cell? ⟨w.heap.size, 1, none⟩ = some (.string x.row.name) ∧ W.cell? ⟨g, i * 5, none⟩ = some (.string X.name) ∧ W.cell? ⟨g, i * 5 + 1, none⟩ = some (.int .i64 (X.kind : Int)) ∧ W.cell? ⟨g, i * 5 + 2, none⟩ = some (.string X.unit) ∧ W.cell? ⟨g, i * 5 + 3, none⟩ = some (.string X.help)) ∧ Aw [] w2.drew W := fun W hA => by
      obtain ⟨x0, x1, x2, x3, x4⟩ := (HO.out W hA).fams.cells_ HX.out
      exact ⟨⟨(HRB.out W hA).facts.2.1, x0, x1, x2, x3⟩, hA⟩
    have HST := Lib.hid hst
    clear hst
    cases hbo : belO X.fam x.row.name.data.toList with
    | some role =>
      have hr := HR0.out
      simp only [hbo] at hr kB
      unfold belV at kB
      simp only [Option.map_some] at kB
      have HR := Lib.hid hr
      clear hr HR0 hbo
      go_region_held3 (fun w' => (w'.cell? ⟨w.heap.size, 1, none⟩ = some (.string x.row.name) ∧ w'.cell? ⟨g, i * 5, none⟩ = some (.string X.name) ∧ w'.cell? ⟨g, i * 5 + 1, none⟩ = some (.int .i64 (X.kind : Int)) ∧ w'.cell? ⟨g, i * 5 + 2, none⟩ = some (.string X.unit) ∧ w'.cell? ⟨g, i * 5 + 3, none⟩ = some (.string X.help)) ∧ Aw [] w2.drew w') (first | (with_reducible assumption) | (with_reducible exact hS0)) (first
        | (go_at_call 15; (with_reducible refine (kB _).mono ?_); rintro e w4 ⟨rfl, hb4⟩; have S4 := HST.out _ (Aw.trans (And.right (by with_reducible assumption)) (Aw.ofBelow hb4))))
      rename_i hHeld
      obtain ⟨_, hAe⟩ := hHeld
      have hOe := HO.out _ hAe
      have hfe := kf
      go_wp2_with fail
      go_ret2
      rw [← HR.out]
      exact OwnerP.ofO ⟨rfl, ⟨_, fs, rfl, hOe, hfe, i, hfl⟩, fun b t cs hB hbr ht => Blk.aw (HKP.out b t cs hB hbr ht) hAe (by simp)⟩
    | none =>
      have hr := HR0.out
      simp only [hbo] at hr kB
      unfold belV at kB
      simp only [Option.map_none] at kB
      have HR := Lib.hid hr
      clear hr HR0 hbo
      go_region_held3 (fun w' => (w'.cell? ⟨w.heap.size, 1, none⟩ = some (.string x.row.name) ∧ w'.cell? ⟨g, i * 5, none⟩ = some (.string X.name) ∧ w'.cell? ⟨g, i * 5 + 1, none⟩ = some (.int .i64 (X.kind : Int)) ∧ w'.cell? ⟨g, i * 5 + 2, none⟩ = some (.string X.unit) ∧ w'.cell? ⟨g, i * 5 + 3, none⟩ = some (.string X.help)) ∧ Aw [] w2.drew w') (first | (with_reducible assumption) | (with_reducible exact hS0)) (first
        | (go_at_call 15; (with_reducible refine (kB _).mono ?_); rintro e w4 ⟨rfl, hb4⟩; have S4 := HST.out _ (Aw.trans (And.right (by with_reducible assumption)) (Aw.ofBelow hb4))))
      rename_i hHeld
      obtain ⟨_, hAe⟩ := hHeld
      have hOe := HO.out _ hAe
      have hRe := HRB.out _ hAe
      have hKPe : Keep r w _ := fun b t cs hB hbr ht => Blk.aw (HKP.out b t cs hB hbr ht) hAe (by simp)
      obtain ⟨c0, c1, c2, c3, c4, c5, c6, c7, c8, c9⟩ := hRe.facts2
      clear HST HO HRB HKP hS0
      have kF13 : ∀ W, Ob W r c o l k s (.slice (some ⟨g, 0, none⟩) (i + 1) fc) t1 t2 t3 N → Calls Tryz.prog 76 #[.pointer (some ⟨r, 0, none⟩), .int .i64 13, .int .i64 (x.row.off : Int)] W fun e w' => e = .returned (.bool false) ∧ Obf w' r 13 x.row.off s (.slice (some ⟨g, 0, none⟩) (i + 1) fc) t1 t2 t3 N ∧ Aw [r] W w' := fun W h => ofails_any r c o l k s _ t1 t2 t3 N 13 x.row.off W h hs
      have kF14 : ∀ W, Ob W r c o l k s (.slice (some ⟨g, 0, none⟩) (i + 1) fc) t1 t2 t3 N → Calls Tryz.prog 76 #[.pointer (some ⟨r, 0, none⟩), .int .i64 14, .int .i64 (x.row.off : Int)] W fun e w' => e = .returned (.bool false) ∧ Obf w' r 14 x.row.off s (.slice (some ⟨g, 0, none⟩) (i + 1) fc) t1 t2 t3 N ∧ Aw [r] W w' := fun W h => ofails_any r c o l k s _ t1 t2 t3 N 14 x.row.off W h hs
      go_upto_block 0 with (fail)
      by_cases h60 : 60 < x.row.name.size
      · have d60 : decide ((60 : Int) < (x.row.name.size : Int)) = true := decide_eq_true (by omega)
        have d60n : decide (60 < x.row.name.size) = true := decide_eq_true h60
        have hr := HR.out
        rw [if_pos h60] at hr
        subst hr
        clear HR h60
        go_wp2_with (go_at_call 76; (with_reducible refine (kF14 _ hOe.rd).mono ?_); rintro e w5 ⟨rfl, h5, hA5⟩)
        go_ret2
        exact ⟨rfl, ⟨_, _, _, _, _, h5⟩, hOe.aw.trans hA5⟩
      have d60 : decide ((60 : Int) < (x.row.name.size : Int)) = false := decide_eq_false (by omega)
      have d60n : decide (60 < x.row.name.size) = false := decide_eq_false h60
      have HR2 := HR.out
      rw [if_neg h60] at HR2
      have kK := fun W h => known_any r c o l k s (.slice (some ⟨g, 0, none⟩) (i + 1) fc) fs t1 t2 t3 N x.row.name w0 W h (by omega)
      cases hkn : knownO (fs.map VFam.fam) x.row.name.data.toList
      case true =>
        rw [hkn] at HR2 kK
        rw [if_pos rfl] at HR2
        subst HR2
        clear HR h60 hkn
        go_wp2_with (first
          | (go_at_call 121; (with_reducible refine (kK _ hOe).mono ?_); rintro e w6 ⟨rfl, hA6⟩; have hO6 := hOe.call hA6; have hR6 := hRe.aw hA6 (by simp); obtain ⟨k0, k1, k2, k3, k4, k5, k6, k7, k8, k9⟩ := hR6.facts2)
          | (go_at_call 76; (with_reducible refine (kF13 _ hO6.rd).mono ?_); rintro e w5 ⟨rfl, h5, hA5⟩))
        go_ret2
        exact ⟨rfl, ⟨_, _, _, _, _, h5⟩, hO6.aw.trans hA5⟩
      rw [hkn] at HR2 kK
      rw [if_neg (by decide)] at HR2
      by_cases hf : 30 ≤ fs.length
      · rw [if_pos (by simpa using hf)] at HR2
        subst HR2
        have kB := fun W h => begins_full r c o l k s (.slice (some ⟨g, 0, none⟩) (i + 1) fc) fs t1 t2 t3 N x.row.name w0 W h hf
        clear HR h60 hkn hf
        go_wp2_with (first
          | (go_at_call 121; (with_reducible refine (kK _ hOe).mono ?_); rintro e w6 ⟨rfl, hA6⟩; have hO6 := hOe.call hA6; have hR6 := hRe.aw hA6 (by simp); obtain ⟨k0, k1, k2, k3, k4, k5, k6, k7, k8, k9⟩ := hR6.facts2)
          | (go_at_call 122; (with_reducible refine (kB _ hO6).mono ?_); rintro e w7 ⟨rfl, hA7⟩; have hO7 := hO6.call hA7; have hR7 := hR6.aw hA7 (by simp); obtain ⟨l0, l1, l2, l3, l4, l5, l6, l7, l8, l9⟩ := hR7.facts2)
          | (go_at_call 76; (with_reducible refine (kF14 _ hO7.rd).mono ?_); rintro e w5 ⟨rfl, h5, hA5⟩))
        go_ret2
        exact ⟨rfl, ⟨_, _, _, _, _, h5⟩, hO7.aw.trans hA5⟩
      · rw [if_neg (by simpa using hf)] at HR2
        have kB := fun W h => begins_any r c o l k s (.slice (some ⟨g, 0, none⟩) (i + 1) fc) fs t1 t2 t3 N x.row.name w0 W h (by omega)
        have HQ := Lib.hid HR2
        have hO9 := kf.push (n := x.row.name) (by omega) (by omega)
        clear HR h60 hkn hf HR2
        go_wp2_with (first
          | (go_at_call 121; (with_reducible refine (kK _ hOe).mono ?_); rintro e w6 ⟨rfl, hA6⟩; have hO6 := hOe.call hA6; have hR6 := hRe.aw hA6 (by simp); obtain ⟨k0, k1, k2, k3, k4, k5, k6, k7, k8, k9⟩ := hR6.facts2)
          | (go_at_call 122; (with_reducible refine (kB _ hO6).mono ?_); rintro e w7 ⟨rfl, fv7, hO7, hkq⟩))
        go_ret2
        rw [← HQ.out]
        exact ⟨rfl, ⟨fv7, _, by simp [vnew, newF, VFam.fam, beginO], hO7, hO9, fs.length, by simp⟩, fun b t cs hB hbr ht => hkq b t cs (Blk.aw (hKPe b t cs hB hbr ht) hA6 (by simp)) hbr ht⟩
end
section
theorem parseD_bdO (l : List UInt8) : -9223372036854775807 ≤ (parseD l).1.1 ∧ (parseD l).1.1 ≤ 9223372036854775807 := by
  unfold parseD
  split
  · simp
  · rename_i wl pl a hc
    obtain ⟨g1, g2, _, _⟩ := cutD_dig hc
    split
    · simp
    · rename_i m hm
      have := numD_le _ 0 m (by omega) (fun c hc => by
        rcases List.mem_append.1 hc with h | h
        · exact (g1 c ((List.dropWhile_sublist _).mem h)).2
        · unfold trimR0 at h
          rw [List.mem_reverse] at h
          have := (List.dropWhile_sublist _).mem h
          rw [List.mem_reverse] at this
          exact (g2 c this).2) hm
      split
      · simp
      · split <;> simp <;> omega
/-- A point in a box of its own. -/
def Pb (w : World) (pb : Nat) (lv : Value) (p : MPnt) : Prop := Blk w pb 73 #[lv, .int .i64 (p.role : Int), .bool p.inf, .int .i64 p.bM, .int .i64 (p.bS : Int), .int .i64 p.vM, .int .i64 (p.vS : Int), .bool p.timed, .int .i64 p.time]
theorem Pb.facts {w : World} {pb : Nat} {lv : Value} {p : MPnt} (h : Pb w pb lv p) : w.cell? ⟨pb, 0, none⟩ = some lv ∧ w.cell? ⟨pb, 1, none⟩ = some (.int .i64 (p.role : Int)) ∧ w.cell? ⟨pb, 2, none⟩ = some (.bool p.inf) ∧ w.cell? ⟨pb, 3, none⟩ = some (.int .i64 p.bM) ∧ w.cell? ⟨pb, 4, none⟩ = some (.int .i64 (p.bS : Int)) ∧ w.cell? ⟨pb, 5, none⟩ = some (.int .i64 p.vM) ∧ w.cell? ⟨pb, 6, none⟩ = some (.int .i64 (p.vS : Int)) ∧ w.cell? ⟨pb, 7, none⟩ = some (.bool p.timed) ∧ w.cell? ⟨pb, 8, none⟩ = some (.int .i64 p.time) :=
  ⟨(Blk.cell h 0).trans rfl, (Blk.cell h 1).trans rfl, (Blk.cell h 2).trans rfl, (Blk.cell h 3).trans rfl, (Blk.cell h 4).trans rfl, (Blk.cell h 5).trans rfl, (Blk.cell h 6).trans rfl, (Blk.cell h 7).trans rfl, (Blk.cell h 8).trans rfl⟩
theorem Pb.aw {S : List Nat} {w w' : World} {pb : Nat} {lv : Value} {p : MPnt} (h : Pb w pb lv p) (a : Aw S w w') (hb : pb ∉ S) : Pb w' pb lv p := Blk.aw h a hb
theorem Pb.inf_ {w : World} {pb role : Nat} {lv : Value} {L : List Lab} (h : Pb w pb lv ⟨L, role, false, 0, 0, 0, 0, false, 0⟩) : Pb (w.setCell ⟨pb, 2, none⟩ (.bool true)) pb lv ⟨L, role, true, 0, 0, 0, 0, false, 0⟩ := Blk.set_ h 2 (.bool true)
theorem Pb.bound_ {w : World} {pb role : Nat} {lv : Value} {L : List Lab} (h : Pb w pb lv ⟨L, role, false, 0, 0, 0, 0, false, 0⟩) (M : Int) (S : Nat) : Pb ((w.setCell ⟨pb, 3, none⟩ (.int .i64 M)).setCell ⟨pb, 4, none⟩ (.int .i64 (S : Int))) pb lv ⟨L, role, false, M, S, 0, 0, false, 0⟩ := (Blk.set_ h 3 (.int .i64 M)).set_ 4 (.int .i64 (S : Int))
theorem Pb.value_ {w : World} {pb role bS : Nat} {lv : Value} {L : List Lab} {inf : Bool} {bM : Int} (h : Pb w pb lv ⟨L, role, inf, bM, bS, 0, 0, false, 0⟩) (M : Int) (S : Nat) : Pb ((w.setCell ⟨pb, 5, none⟩ (.int .i64 M)).setCell ⟨pb, 6, none⟩ (.int .i64 (S : Int))) pb lv ⟨L, role, inf, bM, bS, M, S, false, 0⟩ := (Blk.set_ h 5 (.int .i64 M)).set_ 6 (.int .i64 (S : Int))
theorem Pb.time_ {w : World} {pb role bS vS : Nat} {lv : Value} {L : List Lab} {inf : Bool} {bM vM : Int} (h : Pb w pb lv ⟨L, role, inf, bM, bS, vM, vS, false, 0⟩) (ms : Int) : Pb ((w.setCell ⟨pb, 7, none⟩ (.bool true)).setCell ⟨pb, 8, none⟩ (.int .i64 ms)) pb lv ⟨L, role, inf, bM, bS, vM, vS, true, ms⟩ := (Blk.set_ h 7 (.bool true)).set_ 8 (.int .i64 ms)
theorem Aw.two {S : List Nat} {a b : World} {pb i j : Nat} {u v : Value} (h : Aw [] a b) (hS : pb ∈ S) : Aw S a ((b.setCell ⟨pb, i, none⟩ u).setCell ⟨pb, j, none⟩ v) := ((h.mono (fun k hk => by simp at hk)).setCell (.inl hS) u).setCell (.inl hS) v
theorem Aw.one {S : List Nat} {a b : World} {pb i : Nat} {u : Value} (h : Aw [] a b) (hS : pb ∈ S) : Aw S a (b.setCell ⟨pb, i, none⟩ u) := (h.mono (fun k hk => by simp at hk)).setCell (.inl hS) u
theorem Aw.rp0 {r pb : Nat} {a b c : World} (h : Aw [] a b) (k : Aw [r] b c) : Aw [r, pb] a c := (h.mono (fun k hk => by simp at hk)).trans (k.mono (fun k hk => by simp at hk; simp [hk]))
theorem Aw.rp1 {r pb : Nat} {a b c : World} (h : Aw [pb] a b) (k : Aw [r] b c) : Aw [r, pb] a c := (h.mono (fun k hk => by simp at hk; simp [hk])).trans (k.mono (fun k hk => by simp at hk; simp [hk]))
/-- What a part of a sample's reading does: it fails, or the sample's point is told more of. -/
def PartP (w0 w w' : World) (r pb : Nat) (s : ByteArray) (lv : Value) : Except OErr MPnt → Ending → Prop
  | .error x, en => en = .returned (.bool false) ∧ (∃ c fv t1 t2 t3 N, Obf w' r c x.2 s fv t1 t2 t3 N ∧ c = x.1) ∧ Aw [r, pb] w w'
  | .ok p, en => en = .returned (.bool true) ∧ Pb w' pb lv p ∧ Aw [pb] w w'
def boundP (L : List Lab) (role : Nat) : Except OErr (Bool × Int × Nat) → Except OErr MPnt
  | .error x => .error x
  | .ok b => .ok ⟨L, role, b.1, b.2.1, b.2.2, 0, 0, false, 0⟩
abbrev TagF (w : World) (t : Nat) (T : MTag) : Prop := w.cell? ⟨t, 0, none⟩ = some (.string T.name) ∧ w.cell? ⟨t, 1, none⟩ = some (.string T.value) ∧ w.cell? ⟨t, 2, none⟩ = some (.int .i64 (T.off : Int)) ∧ w.cell? ⟨t, 3, none⟩ = some (.int .i64 (T.pos : Int))
def TagAt (w : World) (t : Nat) (T : MTag) : Prop := Blk w t 45 #[.string T.name, .string T.value, .int .i64 (T.off : Int), .int .i64 (T.pos : Int)]
theorem TagAt.facts {w : World} {t : Nat} {T : MTag} (h : TagAt w t T) : TagF w t T := ⟨(Blk.cell h 0).trans rfl, (Blk.cell h 1).trans rfl, (Blk.cell h 2).trans rfl, (Blk.cell h 3).trans rfl⟩
theorem TagAt.aw {S : List Nat} {w w' : World} {t : Nat} {T : MTag} (h : TagAt w t T) (a : Aw S w w') (hb : t ∉ S) : TagAt w' t T := Blk.aw h a hb
set_option maxRecDepth 100000 in
set_option maxHeartbeats 6400000 in
theorem obound_all (r pb : Nat) (c o l k : Int) (s : ByteArray) (fv : Value) (fs : List VFam) (t1 t2 t3 : Bool) (N role : Nat) (lv : Value) (L : List Lab) (T : MTag) (w0 wP w : World) (h : OA w0 wP r c o l k s fv fs t1 t2 t3 N) (hA : Aw [] wP w) (hpb : wP.heap.size ≤ pb) (hP : Pb w pb lv ⟨L, role, false, 0, 0, 0, 0, false, 0⟩) (hs : s.size ≤ 1048576) (hv : T.value.size ≤ 1048576) (hr : role = 1 ∨ role = 2) :
    Calls Tryz.prog 77 #[.pointer (some ⟨r, 0, none⟩), .pointer (some ⟨pb, 0, none⟩), .agg #[.string T.name, .string T.value, .int .i64 (T.off : Int), .int .i64 (T.pos : Int)]] w fun e w' => PartP w0 w w' r pb s lv (boundP L role (boundO role T)) e := by
  have hT : TagAt _ w.heap.size T := Blk.new w 45 #[.string T.name, .string T.value, .int .i64 (T.off : Int), .int .i64 (T.pos : Int)]
  have hAa := (Aw.refl [] w).alloc (.cells #[.string T.name, .string T.value, .int .i64 (T.off : Int), .int .i64 (T.pos : Int)] 45)
  have hP1 := hP.aw hAa (by simp)
  have hpw := Blk.lt hP
  have hrp : r < wP.heap.size := h.rd.lt
  have HO : Hid (∀ W, Aw [] wP W → OA w0 W r c o l k s fv fs t1 t2 t3 N) := Lib.hid (fun W hA => h.call hA)
  have kF13 : ∀ W, Ob W r c o l k s fv t1 t2 t3 N → Calls Tryz.prog 76 #[.pointer (some ⟨r, 0, none⟩), .int .i64 13, .int .i64 (T.pos : Int)] W fun e w' => e = .returned (.bool false) ∧ Obf w' r 13 T.pos s fv t1 t2 t3 N ∧ Aw [r] W w' := fun W h => ofails_any r c o l k s _ t1 t2 t3 N 13 T.pos W h hs
  have kF12 : ∀ W, Ob W r c o l k s fv t1 t2 t3 N → Calls Tryz.prog 76 #[.pointer (some ⟨r, 0, none⟩), .int .i64 12, .int .i64 (T.pos : Int)] W fun e w' => e = .returned (.bool false) ∧ Obf w' r 12 T.pos s fv t1 t2 t3 N ∧ Aw [r] W w' := fun W h => ofails_any r c o l k s _ t1 t2 t3 N 12 T.pos W h hs
  obtain ⟨R, hR⟩ : ∃ R, boundP L role (boundO role T) = R := ⟨_, rfl⟩
  rw [hR]
  unfold boundO isInf at hR
  have kP := fun W => parse_any T.value W hv
  have hbd := parseD_bdO T.value.data.toList
  generalize parseD T.value.data.toList = PD at *
  obtain ⟨⟨dM, dS⟩, code, kk⟩ := PD
  simp only at hR hbd
  unfold ParseE at kP
  simp only at kP
  have kC : ∀ W, Calls Tryz.prog 91 #[.agg #[.int .i64 dM, .int .i64 (dS : Int)], .agg #[.int .i64 1, .int .i64 0]] W fun e w' => e = .returned (.int .i64 (cmpD dM dS 1 0)) ∧ Aw [] W w' := fun W => scompare_any dM dS 1 0 (by omega) (by omega) (by omega) (by omega) W
  generalize cmpD dM dS 1 0 = C at *
  have HP := Lib.hid hP1
  have HT := Lib.hid hT
  have HA := Lib.hid (hA.trans hAa)
  obtain ⟨p0, p1, p2, p3, p4, p5, p6, p7, p8⟩ := hP1.facts
  obtain ⟨b0, b1, b2, b3⟩ := hT.facts
  have hz1 : (w.alloc (.cells #[.string T.name, .string T.value, .int .i64 (T.off : Int), .int .i64 (T.pos : Int)] 45)).heap.size = w.heap.size + 1 := by simp
  have HAa := Lib.hid hAa
  clear hT hP hP1 hA hAa h
  rcases hr with rfl | rfl
  · have rr : (((1 : Nat) : Int)) = 1 := rfl
    simp only [rr] at p1
    simp only [beq_self_eq_true, Bool.true_and, show ((1 : Nat) == 2) = false from rfl, Bool.false_and, Bool.or_false] at hR
    cases hinf : T.value.data.toList == [43, 73, 110, 102]
    case true =>
      rw [hinf, if_pos rfl] at hR
      simp only [boundP] at hR
      subst hR
      have i1 : (T.value.toList == [43, 73, 110, 102]) = true := by rw [ByteArray.toList_eq]; exact hinf
      clear hinf
      have f2 := Blk.frozen HP.out 2
      go_enter Tryz.func77, Tryz.ntmps77
      go_upto_region 1 with (fail)
      generalize w.alloc (.cells #[.string T.name, .string T.value, .int .i64 (T.off : Int), .int .i64 (T.pos : Int)] 45) = W1 at *
      go_wp2_with fail
      go_ret
      exact ⟨rfl, HP.out.inf_, HAa.out.one (by simp)⟩
    rw [hinf, if_neg (by decide)] at hR
    have i1 : (T.value.toList == [43, 73, 110, 102]) = false := by rw [ByteArray.toList_eq]; exact hinf
    clear hinf
    by_cases h11 : code = 11
    · subst h11
      rw [if_pos rfl] at hR
      simp only [boundP] at hR
      subst hR
      go_enter Tryz.func77, Tryz.ntmps77
      go_wp2_with (first
        | (go_at_call 126; (with_reducible refine (kP _).mono ?_); rintro e w2 ⟨rfl, hA2⟩; have hA3 := hA2.alloc (.cells #[.int .i64 dM, .int .i64 (dS : Int)] 71); have hD3 := Blk.new w2 71 #[.int .i64 dM, .int .i64 (dS : Int)]; have hT3 := HT.out.aw hA3 (by simp); have hP3 := HP.out.aw hA3 (by simp); have hO3 := HO.out _ (HA.out.trans hA3); obtain ⟨q0, q1, q2, q3, q4, q5, q6, q7, q8⟩ := hP3.facts; obtain ⟨d0, d1, d2, d3⟩ := hT3.facts; have m0 := (Blk.cell hD3 0).trans rfl; have m1 := (Blk.cell hD3 1).trans rfl; have f3 := Blk.frozen hP3 3; have f4 := Blk.frozen hP3 4)
        | (go_at_call 76; (with_reducible refine (kF13 _ hO3.rd).mono ?_); rintro e w5 ⟨rfl, h5, hA5⟩))
      go_ret
      exact ⟨rfl, ⟨_, _, _, _, _, _, h5, rfl⟩, Aw.rp0 (HAa.out.trans hA3) hA5⟩
    rw [if_neg h11] at hR
    have g11 : ((code : Int) == 11) = false := by rw [beq_eq_false_iff_ne]; omega
    by_cases h00 : code = 0
    case neg =>
      have g0 : ((code : Int) != 0) = true := by rw [bne_iff_ne]; omega
      have g0' : ((code : Int) == 0) = false := by rw [beq_eq_false_iff_ne]; omega
      have : decide (code ≠ 0) = true := decide_eq_true h00
      simp only [this, Bool.true_or, if_true, boundP] at hR
      subst hR
      clear h11 h00 this
      go_enter Tryz.func77, Tryz.ntmps77
      go_wp2_with (first
        | (go_at_call 126; (with_reducible refine (kP _).mono ?_); rintro e w2 ⟨rfl, hA2⟩; have hA3 := hA2.alloc (.cells #[.int .i64 dM, .int .i64 (dS : Int)] 71); have hD3 := Blk.new w2 71 #[.int .i64 dM, .int .i64 (dS : Int)]; have hT3 := HT.out.aw hA3 (by simp); have hP3 := HP.out.aw hA3 (by simp); have hO3 := HO.out _ (HA.out.trans hA3); obtain ⟨q0, q1, q2, q3, q4, q5, q6, q7, q8⟩ := hP3.facts; obtain ⟨d0, d1, d2, d3⟩ := hT3.facts; have m0 := (Blk.cell hD3 0).trans rfl; have m1 := (Blk.cell hD3 1).trans rfl; have f3 := Blk.frozen hP3 3; have f4 := Blk.frozen hP3 4)
        | (go_at_call 76; (with_reducible refine (kF12 _ hO3.rd).mono ?_); rintro e w5 ⟨rfl, h5, hA5⟩))
      go_ret
      exact ⟨rfl, ⟨_, _, _, _, _, _, h5, rfl⟩, Aw.rp0 (HAa.out.trans hA3) hA5⟩
    subst h00

    simp only [ne_eq, not_true_eq_false, decide_false, Bool.false_eq_true, if_false, boundP] at hR
    subst hR
    clear h11 g11
    go_enter Tryz.func77, Tryz.ntmps77
    go_wp2_with (go_at_call 126; (with_reducible refine (kP _).mono ?_); rintro e w2 ⟨rfl, hA2⟩; have hA3 := hA2.alloc (.cells #[.int .i64 dM, .int .i64 (dS : Int)] 71); have hD3 := Blk.new w2 71 #[.int .i64 dM, .int .i64 (dS : Int)]; have hT3 := HT.out.aw hA3 (by simp); have hP3 := HP.out.aw hA3 (by simp); have hO3 := HO.out _ (HA.out.trans hA3); obtain ⟨q0, q1, q2, q3, q4, q5, q6, q7, q8⟩ := hP3.facts; obtain ⟨d0, d1, d2, d3⟩ := hT3.facts; have m0 := (Blk.cell hD3 0).trans rfl; have m1 := (Blk.cell hD3 1).trans rfl; have f3 := Blk.frozen hP3 3; have f4 := Blk.frozen hP3 4)
    go_ret
    exact ⟨rfl, hP3.bound_ dM dS, (HAa.out.trans hA3).two (by simp)⟩
  · have rr : (((2 : Nat) : Int)) = 2 := rfl
    simp only [rr] at p1
    simp only [show ((2 : Nat) == 1) = false from rfl, Bool.false_and, Bool.false_eq_true, if_false, beq_self_eq_true, Bool.true_and] at hR
    by_cases h11 : code = 11
    · subst h11
      rw [if_pos rfl] at hR
      simp only [boundP] at hR
      subst hR
      go_enter Tryz.func77, Tryz.ntmps77
      go_wp2_with (first
        | (go_at_call 126; (with_reducible refine (kP _).mono ?_); rintro e w2 ⟨rfl, hA2⟩; have hA3 := hA2.alloc (.cells #[.int .i64 dM, .int .i64 (dS : Int)] 71); have hD3 := Blk.new w2 71 #[.int .i64 dM, .int .i64 (dS : Int)]; have hT3 := HT.out.aw hA3 (by simp); have hP3 := HP.out.aw hA3 (by simp); have hO3 := HO.out _ (HA.out.trans hA3); obtain ⟨q0, q1, q2, q3, q4, q5, q6, q7, q8⟩ := hP3.facts; obtain ⟨d0, d1, d2, d3⟩ := hT3.facts; have m0 := (Blk.cell hD3 0).trans rfl; have m1 := (Blk.cell hD3 1).trans rfl; have f3 := Blk.frozen hP3 3; have f4 := Blk.frozen hP3 4)
        | (go_at_call 76; (with_reducible refine (kF13 _ hO3.rd).mono ?_); rintro e w5 ⟨rfl, h5, hA5⟩))
      go_ret
      exact ⟨rfl, ⟨_, _, _, _, _, _, h5, rfl⟩, Aw.rp0 (HAa.out.trans hA3) hA5⟩
    rw [if_neg h11] at hR
    have g11 : ((code : Int) == 11) = false := by rw [beq_eq_false_iff_ne]; omega
    by_cases h00 : code = 0
    case neg =>
      have g0 : ((code : Int) != 0) = true := by rw [bne_iff_ne]; omega
      have g0' : ((code : Int) == 0) = false := by rw [beq_eq_false_iff_ne]; omega
      have : decide (code ≠ 0) = true := decide_eq_true h00
      simp only [this, Bool.true_or, if_true, boundP] at hR
      subst hR
      clear h11 h00 this
      go_enter Tryz.func77, Tryz.ntmps77
      go_wp2_with (first
        | (go_at_call 126; (with_reducible refine (kP _).mono ?_); rintro e w2 ⟨rfl, hA2⟩; have hA3 := hA2.alloc (.cells #[.int .i64 dM, .int .i64 (dS : Int)] 71); have hD3 := Blk.new w2 71 #[.int .i64 dM, .int .i64 (dS : Int)]; have hT3 := HT.out.aw hA3 (by simp); have hP3 := HP.out.aw hA3 (by simp); have hO3 := HO.out _ (HA.out.trans hA3); obtain ⟨q0, q1, q2, q3, q4, q5, q6, q7, q8⟩ := hP3.facts; obtain ⟨d0, d1, d2, d3⟩ := hT3.facts; have m0 := (Blk.cell hD3 0).trans rfl; have m1 := (Blk.cell hD3 1).trans rfl; have f3 := Blk.frozen hP3 3; have f4 := Blk.frozen hP3 4)
        | (go_at_call 76; (with_reducible refine (kF12 _ hO3.rd).mono ?_); rintro e w5 ⟨rfl, h5, hA5⟩))
      go_ret
      exact ⟨rfl, ⟨_, _, _, _, _, _, h5, rfl⟩, Aw.rp0 (HAa.out.trans hA3) hA5⟩
    subst h00

    by_cases hneg : dM < 0
    · have n1 : decide (dM < 0) = true := decide_eq_true hneg
      simp only [n1, Bool.true_or, Bool.or_true, if_true, boundP] at hR
      subst hR
      clear h11 g11 hneg
      go_enter Tryz.func77, Tryz.ntmps77
      go_wp2_with (first
        | (go_at_call 126; (with_reducible refine (kP _).mono ?_); rintro e w2 ⟨rfl, hA2⟩; have hA3 := hA2.alloc (.cells #[.int .i64 dM, .int .i64 (dS : Int)] 71); have hD3 := Blk.new w2 71 #[.int .i64 dM, .int .i64 (dS : Int)]; have hT3 := HT.out.aw hA3 (by simp); have hP3 := HP.out.aw hA3 (by simp); have hO3 := HO.out _ (HA.out.trans hA3); obtain ⟨q0, q1, q2, q3, q4, q5, q6, q7, q8⟩ := hP3.facts; obtain ⟨d0, d1, d2, d3⟩ := hT3.facts; have m0 := (Blk.cell hD3 0).trans rfl; have m1 := (Blk.cell hD3 1).trans rfl; have f3 := Blk.frozen hP3 3; have f4 := Blk.frozen hP3 4)
        | (go_at_call 76; (with_reducible refine (kF12 _ hO3.rd).mono ?_); rintro e w5 ⟨rfl, h5, hA5⟩))
      go_ret
      exact ⟨rfl, ⟨_, _, _, _, _, _, h5, rfl⟩, Aw.rp0 (HAa.out.trans hA3) hA5⟩
    have n1 : decide (dM < 0) = false := decide_eq_false hneg
    by_cases hc : 0 < C
    · have c1 : decide (0 < C) = true := decide_eq_true hc
      simp only [c1, Bool.or_true, if_true, boundP] at hR
      subst hR
      clear h11 g11 hneg hc
      go_enter Tryz.func77, Tryz.ntmps77
      go_wp2_with (first
        | (go_at_call 126; (with_reducible refine (kP _).mono ?_); rintro e w2 ⟨rfl, hA2⟩; have hA3 := hA2.alloc (.cells #[.int .i64 dM, .int .i64 (dS : Int)] 71); have hD3 := Blk.new w2 71 #[.int .i64 dM, .int .i64 (dS : Int)]; have hT3 := HT.out.aw hA3 (by simp); have hP3 := HP.out.aw hA3 (by simp); have hO3 := HO.out _ (HA.out.trans hA3); obtain ⟨q0, q1, q2, q3, q4, q5, q6, q7, q8⟩ := hP3.facts; obtain ⟨d0, d1, d2, d3⟩ := hT3.facts; have m0 := (Blk.cell hD3 0).trans rfl; have m1 := (Blk.cell hD3 1).trans rfl; have f3 := Blk.frozen hP3 3; have f4 := Blk.frozen hP3 4)
        | (go_at_call 91; (with_reducible refine (kC _).mono ?_); rintro e w4 ⟨rfl, hA4⟩; have hT4 := hT3.aw hA4 (by simp); have hP4 := hP3.aw hA4 (by simp); have hO4 := hO3.call hA4; have hD4 := Blk.aw hD3 hA4 (by simp); obtain ⟨q0, q1, q2, q3, q4, q5, q6, q7, q8⟩ := hP4.facts; obtain ⟨d0, d1, d2, d3⟩ := hT4.facts; have m0 := (Blk.cell hD4 0).trans rfl; have m1 := (Blk.cell hD4 1).trans rfl; have f3 := Blk.frozen hP4 3; have f4 := Blk.frozen hP4 4)
        | (go_at_call 76; (with_reducible refine (kF12 _ hO4.rd).mono ?_); rintro e w5 ⟨rfl, h5, hA5⟩))
      go_ret
      exact ⟨rfl, ⟨_, _, _, _, _, _, h5, rfl⟩, Aw.rp0 ((HAa.out.trans hA3).trans hA4) hA5⟩
    have c1 : decide (0 < C) = false := decide_eq_false hc
    simp only [n1, c1, Bool.or_false, ne_eq, not_true_eq_false, decide_false, Bool.false_eq_true, if_false, boundP] at hR
    subst hR
    clear h11 g11 hneg hc
    go_enter Tryz.func77, Tryz.ntmps77
    go_wp2_with (first | (go_at_call 126; (with_reducible refine (kP _).mono ?_); rintro e w2 ⟨rfl, hA2⟩; have hA3 := hA2.alloc (.cells #[.int .i64 dM, .int .i64 (dS : Int)] 71); have hD3 := Blk.new w2 71 #[.int .i64 dM, .int .i64 (dS : Int)]; have hT3 := HT.out.aw hA3 (by simp); have hP3 := HP.out.aw hA3 (by simp); have hO3 := HO.out _ (HA.out.trans hA3); obtain ⟨q0, q1, q2, q3, q4, q5, q6, q7, q8⟩ := hP3.facts; obtain ⟨d0, d1, d2, d3⟩ := hT3.facts; have m0 := (Blk.cell hD3 0).trans rfl; have m1 := (Blk.cell hD3 1).trans rfl; have f3 := Blk.frozen hP3 3; have f4 := Blk.frozen hP3 4) | (go_at_call 91; (with_reducible refine (kC _).mono ?_); rintro e w4 ⟨rfl, hA4⟩; have hT4 := hT3.aw hA4 (by simp); have hP4 := hP3.aw hA4 (by simp); have hO4 := hO3.call hA4; have hD4 := Blk.aw hD3 hA4 (by simp); obtain ⟨q0, q1, q2, q3, q4, q5, q6, q7, q8⟩ := hP4.facts; obtain ⟨d0, d1, d2, d3⟩ := hT4.facts; have m0 := (Blk.cell hD4 0).trans rfl; have m1 := (Blk.cell hD4 1).trans rfl; have f3 := Blk.frozen hP4 3; have f4 := Blk.frozen hP4 4))
    go_ret
    exact ⟨rfl, hP4.bound_ dM dS, ((HAa.out.trans hA3).trans hA4).two (by simp)⟩
end
section
/-- Which of the labels is the bound. -/
def OwnIx (ts : List MTag) : Option MTag → Int → Prop
  | none, j => j = -1
  | some t, j => ∃ n : Nat, j = n ∧ ts[n]? = some t
/-- What tags does. -/
def TagsP (w0 wP w' : World) (r pb role : Nat) (s : ByteArray) (ts : List MTag) : Except OErr (Option MTag × List Lab) → Ending → Prop
  | .error x, en => en = .returned (.tuple #[.int .i64 0, .bool false]) ∧ (∃ c fv t1 t2 t3 N, Obf w' r c x.2 s fv t1 t2 t3 N ∧ c = x.1) ∧ Aw [r] w0 w'
  | .ok q, en => (∃ j, en = .returned (.tuple #[.int .i64 j, .bool true]) ∧ OwnIx ts q.1 j) ∧ ∃ A cp, Pb w' pb (.slice A ((sortL q.2).getD []).length cp) ⟨(sortL q.2).getD [], role, false, 0, 0, 0, 0, false, 0⟩ ∧ w'.ownsRow wP.heap.size 183 2 (.slice A ((sortL q.2).getD []).length cp) ((sortL q.2).getD []).length (((sortL q.2).getD []).flatMap labCell) ∧ Aw [] wP w'
theorem own_labO {w : World} {base : Nat} {A : Option Addr} {n cap : Nat} {l : List Lab} (h : w.ownsRow base 183 2 (.slice A n cap) n (l.flatMap labCell)) (hl : l.length = n) : IsRows labCell 2 w w.heap.size A n l := by
  obtain ⟨A', cap', e, hr⟩ := own_rws (f := labCell) (fun _ => rfl) h hl
  injection e with e1 e2 e3
  subst e1
  exact hr
theorem own_lowL {w : World} {base base' : Nat} {e : TypeId} {size n : Nat} {v : Value} {xs : List Value} (h : w.ownsRow base e size v n xs) (hb : base' ≤ base) : w.ownsRow base' e size v n xs := by
  obtain ⟨hl, h | ⟨g, cap, cur, e, hg, hh, r⟩⟩ := h
  · exact ⟨hl, .inl h⟩
  · exact ⟨hl, .inr ⟨g, cap, cur, e, by omega, hh, r⟩⟩
theorem IsRows.take_ {α : Type} {f : α → List Value} {size B n j : Nat} {w : World} {A : Option Addr} {xs : List α} (h : IsRows f size w B A n xs) (hj : j ≤ n) : IsRows f size w B A j (xs.take j) :=
  ⟨by rw [List.length_take, h.1]; omega, fun h0 => by
    obtain ⟨b, off, e, hb, hc⟩ := h.2 (by omega)
    exact ⟨b, off, e, hb, fun i y k u hx hu => hc i y k u (by rw [List.getElem?_take] at hx; split at hx; exact hx; cases hx) hu⟩⟩
theorem boundT_cases (role : Nat) (T : MTag) : boundT role T = ((role == 1 && (T.name.toList == [108, 101])) || (role == 2 && (T.name.toList == [113, 117, 97, 110, 116, 105, 108, 101]))) := by
  unfold boundT isLe isQu
  rw [ByteArray.toList_eq]
set_option maxRecDepth 100000 in
set_option maxHeartbeats 12800000 in
theorem otags_all (r pb : Nat) (c o l k : Int) (s : ByteArray) (fv : Value) (fs : List VFam) (t1 t2 t3 : Bool) (N role B : Nat) (x : VRow) (w0 wP w : World) (h : OA w0 wP r c o l k s fv fs t1 t2 t3 N) (hA : Aw [] wP w) (hpb : wP.heap.size ≤ pb) (hP : Pb w pb (.slice none 0 0) ⟨[], role, false, 0, 0, 0, 0, false, 0⟩) (hs : s.size ≤ 1048576) (ht : IsRows tagCell 4 wP B x.tA x.row.tags.length x.row.tags) (hB : B ≤ wP.heap.size) (hn : x.row.tags.length ≤ 1048576) (hcap : x.row.tags.length ≤ x.tc) :
    Calls Tryz.prog 74 #[.pointer (some ⟨r, 0, none⟩), .pointer (some ⟨pb, 0, none⟩), .agg #[.int .i64 x.row.kind, .string x.row.name, .int .i64 x.row.off, .slice x.tA x.row.tags.length x.tc, .slice x.fA x.row.fields.length x.fc, .string x.row.text, .int .i64 x.row.pos, .bool x.row.timed, .string x.row.time, .int .i64 x.row.when_]] w fun e w' => TagsP w0 wP w' r pb role s x.row.tags (tagsO role x.row.tags 0 x.row.tags none []) e := by
  have hmf : ∀ (fn : Fn) (first cap : Array Value) (w : World), (Instr.makeFunc fn first cap).run Tryz.prog w = .ok (.func fn first cap) w := fun _ _ _ _ => rfl
  have hT : RowAt _ w.heap.size x := Blk.new w 43 #[.int .i64 x.row.kind, .string x.row.name, .int .i64 x.row.off, .slice x.tA x.row.tags.length x.tc, .slice x.fA x.row.fields.length x.fc, .string x.row.text, .int .i64 x.row.pos, .bool x.row.timed, .string x.row.time, .int .i64 x.row.when_]
  have hAa := hA.alloc (.cells #[.int .i64 x.row.kind, .string x.row.name, .int .i64 x.row.off, .slice x.tA x.row.tags.length x.tc, .slice x.fA x.row.fields.length x.fc, .string x.row.text, .int .i64 x.row.pos, .bool x.row.timed, .string x.row.time, .int .i64 x.row.when_] 43)
  have hP1 : Pb (w.alloc (.cells #[.int .i64 x.row.kind, .string x.row.name, .int .i64 x.row.off, .slice x.tA x.row.tags.length x.tc, .slice x.fA x.row.fields.length x.fc, .string x.row.text, .int .i64 x.row.pos, .bool x.row.timed, .string x.row.time, .int .i64 x.row.when_] 43)) pb _ _ := hP.aw ((Aw.refl [] w).alloc _) (by simp)
  have hrp : r < wP.heap.size := h.rd.lt
  have hpw := Blk.lt hP
  have htp : w.heap.size ≠ pb := by omega
  have hwt : wP.heap.size ≤ w.heap.size := hA.size
  have HO : Hid (∀ W, Aw [] wP W → OA w0 W r c o l k s fv fs t1 t2 t3 N) := Lib.hid (fun W hA => h.call hA)
  have kF13 : ∀ (at_ : Nat) W, Ob W r c o l k s fv t1 t2 t3 N → Calls Tryz.prog 76 #[.pointer (some ⟨r, 0, none⟩), .int .i64 13, .int .i64 (at_ : Int)] W fun e w' => e = .returned (.bool false) ∧ Obf w' r 13 at_ s fv t1 t2 t3 N ∧ Aw [r] W w' := fun at_ W h => ofails_any r c o l k s _ t1 t2 t3 N 13 at_ W h hs
  have kF14 : ∀ (at_ : Nat) W, Ob W r c o l k s fv t1 t2 t3 N → Calls Tryz.prog 76 #[.pointer (some ⟨r, 0, none⟩), .int .i64 14, .int .i64 (at_ : Int)] W fun e w' => e = .returned (.bool false) ∧ Obf w' r 14 at_ s fv t1 t2 t3 N ∧ Aw [r] W w' := fun at_ W h => ofails_any r c o l k s _ t1 t2 t3 N 14 at_ W h hs
  obtain ⟨R, hR⟩ : ∃ R, tagsO role x.row.tags 0 x.row.tags none [] = R := ⟨_, rfl⟩
  rw [hR]
  have H0 : Hid (tagsO role x.row.tags 0 (x.row.tags.drop 0) none [] = R) := Lib.hid (by rw [List.drop_zero]; exact hR)
  obtain ⟨i0, hi0, hz0, hz1, hz2⟩ := info_parts Tryz.infoLabel
  have hu : Tryz.prog.underlying 69 = some (.slice 183) := by kernel_rfl
  have HT := Lib.hid ht
  have HC := Lib.hid hcap
  clear hR h hA hP ht hcap
  obtain ⟨c0, c1, c2, c3, c4, c5, c6, c7, c8, c9⟩ := hT.facts2
  have hO0 : Hid (OwnIx x.row.tags none (-1)) := Lib.hid rfl
  generalize hn0 : x.row.tags.length = n at *
  go_enter Tryz.func74, Tryz.ntmps74
  go_upto_block 0 with (fail)
  generalize w.alloc (.cells #[.int .i64 x.row.kind, .string x.row.name, .int .i64 x.row.off, .slice x.tA n x.tc, .slice x.fA x.row.fields.length x.fc, .string x.row.text, .int .i64 x.row.pos, .bool x.row.timed, .string x.row.time, .int .i64 x.row.when_] 43) = W1 at *
  clear c0 c1 c2 c3 c4 c5 c6 c7 c8 c9
  go_wp2_with fail
  go_loopw [8, 16] (fun ov iv wr => ∃ (j : Nat) (own : Option MTag) (jo : Int) (acc : List Lab) (A : Option Addr) (cap : Nat), j ≤ n ∧ iv = .int .i64 j ∧ ov = .int .i64 jo ∧ Hid (OwnIx x.row.tags own jo) ∧ acc.length ≤ 8 ∧ Hid (tagsO role x.row.tags j (x.row.tags.drop j) own acc = R) ∧ Hid (Pb wr pb (.slice A acc.length cap) ⟨acc, role, false, 0, 0, 0, 0, false, 0⟩) ∧ Hid (RowAt wr w.heap.size x) ∧ Hid (wr.ownsRow wP.heap.size 183 2 (.slice A acc.length cap) acc.length (acc.flatMap labCell)) ∧ Aw [] wP wr) (fun _ i _ => n - (intOf i).toNat)
  case atStart => exact ⟨0, none, -1, [], none, 0, by omega, rfl, rfl, hO0, by simp, H0, Lib.hid hP1, Lib.hid hT, Lib.hid (World.ownsRow_nil _ _ _ _), hAa⟩
  case round =>
    obtain ⟨j, own, jo, acc, A, cap, hj, rfl, rfl, HOI, hacc, HR, HP, HT2, HOW, hAr⟩ := hrel
    clear H0 hO0 hT hP1 hAa
    have hwr := hAr.size
    have ht1 := HT.out.aw hAr hB (by simp)
    by_cases hlt : j < n
    case neg =>
      have hdj : decide ((j : Int) < (n : Int)) = false := decide_eq_false (by omega)
      have hdjn : decide (j < n) = false := decide_eq_false hlt
      have hR := HR.out
      rw [List.drop_of_length_le (by omega), tagsO] at hR
      subst hR
      clear HR
      have kS := sortO_any A acc.length cap acc wr (own_labO HOW.out rfl) (by omega)
      obtain ⟨p0, p1, p2, p3, p4, p5, p6, p7, p8⟩ := HP.out.facts
      have hP1 := HP.out
      go_wp2_with (go_at_call 125; (with_reducible refine kS.mono ?_); rintro en w6 ⟨⟨A', n', cap', rfl, hrS, hn'⟩, hb6⟩; have hA6 := Aw.ofBelow (S := []) hb6; have hP6 := hP1.aw hA6 (by simp); have f0 := Blk.frozen hP6 0; obtain ⟨q0, q1, q2, q3, q4, q5, q6, q7, q8⟩ := hP6.facts)
      go_ret2
      subst hn'
      have hA7 := (hAr.trans hA6).setCell (p := ⟨pb, 0, none⟩) (.inr hpb) (.slice A' ((sortL acc).getD []).length cap')
      exact ⟨⟨jo, rfl, HOI.out⟩, A', cap', Blk.set_ hP6 0 (.slice A' ((sortL acc).getD []).length cap'), own_aw (own_lowL hrS hwr) ((Aw.refl [pb] w6).setCell (p := ⟨pb, 0, none⟩) (.inl (by simp)) _) (fun g hg hm => by
        rw [List.mem_singleton] at hm; subst hm
        exact own_blk_ne hrS hP6 (by decide) hg), hA7⟩
    case pos =>
      have hdj : decide ((j : Int) < (n : Int)) = true := decide_eq_true (by omega)
      have hdjn : decide (j < n) = true := decide_eq_true hlt
      have hj0 : (0 : Int) ≤ j := by omega
      have hj1 : (j : Int) < n := by omega
      have wj : IntKind.i64.wrap ((j : Int) + 1) = (j : Int) + 1 := IntWalk.i64_in _ (by omega)
      obtain ⟨b, off, eA, hb, hcs⟩ := ht1.2 (by omega)
      obtain ⟨T, hT⟩ : ∃ T, x.row.tags[j]? = some T := ⟨_, List.getElem?_eq_getElem (by omega)⟩
      have q0 : wr.cell? ⟨b, off + j * 4, none⟩ = some (.string T.name) := hcs j T 0 _ hT rfl
      have q1 : wr.cell? ⟨b, off + j * 4 + 1, none⟩ = some (.string T.value) := hcs j T 1 _ hT rfl
      have q2 : wr.cell? ⟨b, off + j * 4 + 2, none⟩ = some (.int .i64 (T.off : Int)) := hcs j T 2 _ hT rfl
      have q3 : wr.cell? ⟨b, off + j * 4 + 3, none⟩ = some (.int .i64 (T.pos : Int)) := hcs j T 3 _ hT rfl
      have hR := HR.out
      rw [drop_at hT, tagsO] at hR
      have HTj := Lib.hid hT
      have hcut0 : x.row.tags.take j = (x.row.tags.take j) := rfl
      clear hcs HR hT hcut0
      rw [eA]
      go_upto_region 6 with (fail)
      have hTg : TagAt (wr.alloc (.cells #[.string T.name, .string T.value, .int .i64 (T.off : Int), .int .i64 (T.pos : Int)] 45)) wr.heap.size T := Blk.new wr _ _
      have hA2 := hAr.alloc (.cells #[.string T.name, .string T.value, .int .i64 (T.off : Int), .int .i64 (T.pos : Int)] 45)
      have hA2' := (Aw.refl [] wr).alloc (.cells #[.string T.name, .string T.value, .int .i64 (T.off : Int), .int .i64 (T.pos : Int)] 45)
      have hP2 := HP.out.aw hA2' (by simp)
      have hRw := HT2.out.aw hA2' (by simp)
      have hOw := own_aw HOW.out hA2' (by simp)
      have hpr := Blk.lt HP.out
      have htb : wr.heap.size ≠ pb := by omega
      have hrb : wP.heap.size ≤ wr.heap.size := hwr
      clear HP HT2 HOW hA2' q0 q1 q2 q3
      generalize wr.alloc (.cells #[.string T.name, .string T.value, .int .i64 (T.off : Int), .int .i64 (T.pos : Int)] 45) = W2 at *
      generalize wr.heap.size = tb at *
      obtain ⟨d0, d1, d2, d3⟩ := hTg.facts
      obtain ⟨p0, p1, p2, p3, p4, p5, p6, p7, p8⟩ := hP2.facts
      simp only at p1
      obtain ⟨bd, hbd⟩ : ∃ bd, boundT role T = bd := ⟨_, rfl⟩
      rw [hbd] at hR
      rw [boundT_cases] at hbd
      have HBD := Lib.hid hbd
      have HR2 := Lib.hid hR
      clear hbd hR
      go_cut [12, 16] from 16 to 101 (fun v iv wx => v = .bool bd ∧ iv = .int .i64 (j : Int) ∧ wx = W2)
      case first =>
        have hbd := HBD.out
        by_cases h1 : role = 1
        · have a1 : ((role : Int) == 1) = true := by rw [beq_iff_eq]; omega
          have a2 : ((role : Int) == 2) = false := by rw [beq_eq_false_iff_ne]; omega
          cases e1 : (T.name.toList == [108, 101])
          · have : Hid (bd = false) := Lib.hid (by rw [← hbd, e1, h1]; rfl)
            clear hbd h1
            go_wp2_with fail
            go_meet
            exact ⟨by rw [this.out], rfl, rfl⟩
          · have : Hid (bd = true) := Lib.hid (by rw [← hbd, e1, h1]; rfl)
            clear hbd h1
            go_wp2_with fail
            go_meet
            exact ⟨by rw [this.out], rfl, rfl⟩
        · have a1 : ((role : Int) == 1) = false := by rw [beq_eq_false_iff_ne]; omega
          by_cases h2 : role = 2
          · have a2 : ((role : Int) == 2) = true := by rw [beq_iff_eq]; omega
            cases e1 : (T.name.toList == [113, 117, 97, 110, 116, 105, 108, 101])
            · have : Hid (bd = false) := Lib.hid (by rw [← hbd, e1, h2]; rfl)
              clear hbd h1 h2
              go_wp2_with fail
              go_meet
              exact ⟨by rw [this.out], rfl, rfl⟩
            · have : Hid (bd = true) := Lib.hid (by rw [← hbd, e1, h2]; rfl)
              clear hbd h1 h2
              go_wp2_with fail
              go_meet
              exact ⟨by rw [this.out], rfl, rfl⟩
          · have a2 : ((role : Int) == 2) = false := by rw [beq_eq_false_iff_ne]; omega
            have : Hid (bd = false) := Lib.hid (by rw [← hbd, beq_eq_false_iff_ne.2 h1, beq_eq_false_iff_ne.2 h2]; rfl)
            clear hbd h1 h2
            go_wp2_with fail
            go_meet
            exact ⟨by rw [this.out], rfl, rfl⟩
      case rest =>
      obtain ⟨rfl, rfl, hwc⟩ := hcut
      rw [hwc]
      clear hwc wc
      have hO2 := HO.out _ hA2
      obtain ⟨c0, c1, c2, c3, c4, c5, c6, c7, c8, c9⟩ := hRw.facts2
      clear HBD
      by_cases h60 : 60 < T.name.size
      · have hR := HR2.out
        rw [if_pos h60] at hR
        have d60 : decide ((60 : Int) < (T.name.size : Int)) = true := decide_eq_true (by omega)
        have d60n : decide (60 < T.name.size) = true := decide_eq_true h60
        subst hR
        clear HR2 h60
        go_wp2_with (go_at_call 76; (with_reducible refine (kF14 _ _ hO2.rd).mono ?_); rintro en w9 ⟨rfl, h9, hA9⟩)
        go_ret2
        exact ⟨rfl, ⟨_, _, _, _, _, _, h9, rfl⟩, hO2.aw.trans hA9⟩
      have d60 : decide ((60 : Int) < (T.name.size : Int)) = false := decide_eq_false (by omega)
      have d60n : decide (60 < T.name.size) = false := decide_eq_false h60
      by_cases h61 : 60 < T.value.size
      · have hR := HR2.out
        rw [if_neg h60, if_pos h61] at hR
        have d61 : decide ((60 : Int) < (T.value.size : Int)) = true := decide_eq_true (by omega)
        have d61n : decide (60 < T.value.size) = true := decide_eq_true h61
        subst hR
        clear HR2 h60 h61
        go_wp2_with (go_at_call 76; (with_reducible refine (kF14 _ _ hO2.rd).mono ?_); rintro en w9 ⟨rfl, h9, hA9⟩)
        go_ret2
        exact ⟨rfl, ⟨_, _, _, _, _, _, h9, rfl⟩, hO2.aw.trans hA9⟩
      have d61 : decide ((60 : Int) < (T.value.size : Int)) = false := decide_eq_false (by omega)
      have d61n : decide (60 < T.value.size) = false := decide_eq_false h61
      have hR := HR2.out
      rw [if_neg h60, if_neg h61] at hR
      clear HR2 h60 h61
      have hrows : IsRows tagCell 4 W2 B x.tA j (x.row.tags.take j) := (HT.out.aw hA2 hB (by simp)).take_ hj
      have hBw : B ≤ W2.heap.size := by have := hA2.size; omega
      have kC : ∀ cp, Calls Tryz.prog 124 #[.slice (some ⟨b, off, none⟩) j cp, .func (.func 123) #[] #[.pointer (some ⟨tb, 0, none⟩)]] W2 fun e w' => e = .returned (.bool ((x.row.tags.take j).any fun u => u.name.data.toList == T.name.data.toList)) ∧ Aw [] W2 w' := fun cp => by
        have := conT_any tb x.tA j cp W2.heap.size (x.row.tags.take j) (fun u => u.name.data.toList == T.name.data.toList) W2 (hrows.more hBw) (Nat.le_refl _) (by omega) (fun u _ W hW => tagClo_any tb T u W (hTg.aw hW (by simp)))
        rw [eA] at this
        exact this
      rw [eA, hn0] at c3
      have hjn : j ≤ n := hj
      have hncap : n ≤ x.tc := HC.out
      cases hct : (x.row.tags.take j).any fun u => u.name.data.toList == T.name.data.toList
      case true =>
        rw [hct] at hR kC
        rw [if_pos rfl] at hR
        subst hR
        clear hct hrows
        go_wp2_with (first
          | (go_at_call 124; (with_reducible refine (kC _).mono ?_); rintro en w5 ⟨rfl, hA5⟩; have hO5 := hO2.call hA5; have hT5 := hTg.aw hA5 (by simp); obtain ⟨e0, e1, e2, e3⟩ := hT5.facts)
          | (go_at_call 76; (with_reducible refine (kF13 _ _ hO5.rd).mono ?_); rintro en w9 ⟨rfl, h9, hA9⟩))
        go_ret2
        exact ⟨rfl, ⟨_, _, _, _, _, _, h9, rfl⟩, hO5.aw.trans hA9⟩
      rw [hct] at hR kC
      rw [if_neg (by decide)] at hR
      clear hct hrows
      cases bd
      case true =>
        rw [if_pos rfl] at hR
        have HR3 := Lib.hid hR
        have HOI2 : Hid (OwnIx x.row.tags (some T) (j : Int)) := Lib.hid ⟨j, rfl, HTj.out⟩
        clear hR
        go_wp2_with (go_at_call 124; (with_reducible refine (kC _).mono ?_); rintro en w5 ⟨rfl, hA5⟩; have hO5 := hO2.call hA5; have hP5 := hP2.aw hA5 (by simp); have hR5 := hRw.aw hA5 (by simp); have hOw5 := own_aw hOw hA5 (by simp))
        go_roundw
        case rel => exact ⟨j + 1, some T, (j : Int), acc, A, cap, by omega, by go_num, rfl, HOI2, hacc, HR3, Lib.hid hP5, Lib.hid hR5, Lib.hid hOw5, hA2.trans hA5⟩
        case measure => simp [intOf]; omega
      case false =>
        rw [if_neg (by decide)] at hR
        by_cases h8 : 8 ≤ acc.length
        · rw [if_pos h8] at hR
          have d8 : decide ((8 : Int) ≤ (acc.length : Int)) = true := decide_eq_true (by omega)
          have d8n : decide (8 ≤ acc.length) = true := decide_eq_true h8
          subst hR
          clear h8
          go_wp2_with (first
            | (go_at_call 124; (with_reducible refine (kC _).mono ?_); rintro en w5 ⟨rfl, hA5⟩; have hO5 := hO2.call hA5; have hP5 := hP2.aw hA5 (by simp); obtain ⟨g0, g1, g2, g3, g4, g5, g6, g7, g8⟩ := hP5.facts; have hT5 := hTg.aw hA5 (by simp); obtain ⟨e0, e1, e2, e3⟩ := hT5.facts)
            | (go_at_call 76; (with_reducible refine (kF14 _ _ hO5.rd).mono ?_); rintro en w9 ⟨rfl, h9, hA9⟩))
          go_ret2
          exact ⟨rfl, ⟨_, _, _, _, _, _, h9, rfl⟩, hO5.aw.trans hA9⟩
        · rw [if_neg h8] at hR
          have d8 : decide ((8 : Int) ≤ (acc.length : Int)) = false := decide_eq_false (by omega)
          have d8n : decide (8 ≤ acc.length) = false := decide_eq_false h8
          have HR3 := Lib.hid hR
          have hacc8 : acc.length < 8 := by omega
          clear hR h8
          go_upto_region 17 with (go_at_call 124; (with_reducible refine (kC _).mono ?_); rintro en w5 ⟨rfl, hA5⟩; have hO5 := hO2.call hA5; have hP5 := hP2.aw hA5 (by simp); obtain ⟨g0, g1, g2, g3, g4, g5, g6, g7, g8⟩ := hP5.facts; have hT5 := hTg.aw hA5 (by simp); obtain ⟨e0, e1, e2, e3⟩ := hT5.facts; have hR5 := hRw.aw hA5 (by simp); have hOw5 := own_aw hOw hA5 (by simp); have hA5' := hA2.trans hA5)
          have hOd : w5.drew.ownsRow wP.heap.size 183 2 (.slice A acc.length cap) acc.length (acc.flatMap labCell) := own_aw hOw5 (Aw.refl [] w5).drew (by simp)
          have hPa : Pb (w5.drew.alloc (.cells #[.string T.name, .string T.value] 183)) pb _ _ := Blk.alloc (Blk.drew hP5) _
          have hTa : TagAt (w5.drew.alloc (.cells #[.string T.name, .string T.value] 183)) tb T := Blk.alloc (Blk.drew hT5) _
          have hPa' : Pb (w5.alloc (.cells #[.string T.name, .string T.value] 183)) pb _ _ := Blk.alloc hP5 _
          have hTa' : TagAt (w5.alloc (.cells #[.string T.name, .string T.value] 183)) tb T := Blk.alloc hT5 _
          obtain ⟨a0, _⟩ := hPa'.facts
          obtain ⟨b0, b1, _⟩ := hTa'.facts
          have hw5 : wP.heap.size ≤ w5.heap.size := hA5'.size
          go_region_law (refine step_append_lies _ (by rfl) _ _ _ (by rfl) wP.heap.size 183 i0 _ 2 32 hu hi0 hz0 hz1 hz2 rfl (by omega) (.slice A acc.length cap) acc.length (acc.flatMap labCell) (by rfl) (hOd.alloc _) ⟨w5.heap.size, 0, none⟩ 1 1 [.string T.name, .string T.value] (by rfl) (by rfl) (World.news_of_block (heap_alloc_new w5.drew _)) (by simp [Value.oneCell']) (by omega) (by simp [maxLen]; omega) (by omega) (by simp; omega) (w5.heap.size + 1) (by simp) ?_; intro gg capg w18 hown18 hgrow hat18 hlt18; have hP18 : Pb w18 pb (.slice A acc.length cap) ⟨acc, role, false, 0, 0, 0, 0, false, 0⟩ := Blk.grown (w := _) hPa hgrow (fun e => own_blk_ne hOd (Blk.drew hP5) (by decide) e.symm); obtain ⟨y0, _⟩ := hP18.facts; have yf := Blk.frozen hP18 0)
          all_goals
            have hA18 : Aw [] wP w18 := (hA5'.drew.alloc _).grown hgrow (fun k' hk => .inr (hOd.lt _ hk).1)
            have hR18 : RowAt w18 w.heap.size x := Blk.grown (w := _) (Blk.alloc (Blk.drew hR5) _) hgrow (fun e => own_blk_ne hOd (Blk.drew hR5) (by decide) e.symm)
            have hP19 : Pb _ pb (.slice (some ⟨gg, 0, none⟩) (acc.length + 1) capg) ⟨acc ++ [(T.name, T.value)], role, false, 0, 0, 0, 0, false, 0⟩ := Blk.set_ hP18 0 (.slice (some ⟨gg, 0, none⟩) (acc.length + 1) capg)
            have hR19 : RowAt _ w.heap.size x := Blk.far hR18 (p := ⟨pb, 0, none⟩) htp (.slice (some ⟨gg, 0, none⟩) (acc.length + 1) capg)
            have hA19 : Aw [] wP _ := hA18.setCell (p := ⟨pb, 0, none⟩) (.inr hpb) (.slice (some ⟨gg, 0, none⟩) (acc.length + 1) capg)
            have hown19 := own_aw hown18 ((Aw.refl [pb] w18).setCell (p := ⟨pb, 0, none⟩) (.inl (by simp)) (.slice (some ⟨gg, 0, none⟩) (acc.length + 1) capg)) (fun g hg hm => by
              rw [List.mem_singleton] at hm; subst hm
              exact own_blk_ne hown18 hP18 (by decide) hg)
            have hlen : (acc ++ [(T.name, T.value)]).length = acc.length + 1 := by simp
            have HO19 := Lib.hid hown19
            have HP19 := Lib.hid hP19
            have HR19 := Lib.hid hR19
            clear hown19 hP19 hR19 hR18 hA18 hP18 hown18 hgrow hat18 hlt18
            go_wp2_with fail
            go_roundw
            case rel => exact ⟨j + 1, own, jo, acc ++ [(T.name, T.value)], some ⟨gg, 0, none⟩, capg, by omega, by go_num, rfl, HOI, by simp; omega, HR3, by rw [hlen]; exact HP19, HR19, by rw [hlen]; exact Lib.hid (by simpa [labCell] using HO19.out), hA19⟩
            case measure => simp [intOf]; omega
end
section
def valueP (L : List Lab) (role : Nat) (inf : Bool) (bM : Int) (bS : Nat) : Except OErr ((Int × Nat) × Bool × Int) → Except OErr MPnt
  | .error x => .error x
  | .ok v => .ok ⟨L, role, inf, bM, bS, v.1.1, v.1.2, v.2.1, v.2.2⟩
set_option maxRecDepth 100000 in
set_option maxHeartbeats 12800000 in
theorem ovalue_all (r pb : Nat) (c o l k : Int) (s : ByteArray) (fv : Value) (fs : List VFam) (t1 t2 t3 : Bool) (N kind role bS : Nat) (inf : Bool) (bM : Int) (lv : Value) (L : List Lab) (x : VRow) (w0 wP w : World) (h : OA w0 wP r c o l k s fv fs t1 t2 t3 N) (hA : Aw [] wP w) (hpb : wP.heap.size ≤ pb) (hP : Pb w pb lv ⟨L, role, inf, bM, bS, 0, 0, false, 0⟩) (hs : s.size ≤ 1048576) (htx : x.row.text.size ≤ 1048576) (htm : x.row.time.size ≤ 1048576) :
    Calls Tryz.prog 78 #[.pointer (some ⟨r, 0, none⟩), .pointer (some ⟨pb, 0, none⟩), .int .i64 (kind : Int), .agg #[.int .i64 x.row.kind, .string x.row.name, .int .i64 x.row.off, .slice x.tA x.row.tags.length x.tc, .slice x.fA x.row.fields.length x.fc, .string x.row.text, .int .i64 x.row.pos, .bool x.row.timed, .string x.row.time, .int .i64 x.row.when_]] w fun e w' => PartP w0 w w' r pb s lv (valueP L role inf bM bS (valueO kind role x.row)) e := by
  have hT : RowAt _ w.heap.size x := Blk.new w 43 #[.int .i64 x.row.kind, .string x.row.name, .int .i64 x.row.off, .slice x.tA x.row.tags.length x.tc, .slice x.fA x.row.fields.length x.fc, .string x.row.text, .int .i64 x.row.pos, .bool x.row.timed, .string x.row.time, .int .i64 x.row.when_]
  have hAa := (Aw.refl [] w).alloc (.cells #[.int .i64 x.row.kind, .string x.row.name, .int .i64 x.row.off, .slice x.tA x.row.tags.length x.tc, .slice x.fA x.row.fields.length x.fc, .string x.row.text, .int .i64 x.row.pos, .bool x.row.timed, .string x.row.time, .int .i64 x.row.when_] 43)
  have hP1 := hP.aw hAa (by simp)
  have hpw := Blk.lt hP
  have hrp : r < wP.heap.size := h.rd.lt
  have HO : Hid (∀ W, Aw [] wP W → OA w0 W r c o l k s fv fs t1 t2 t3 N) := Lib.hid (fun W hA => h.call hA)
  have kFt : ∀ W, Ob W r c o l k s fv t1 t2 t3 N → Calls Tryz.prog 76 #[.pointer (some ⟨r, 0, none⟩), .int .i64 12, .int .i64 (x.row.pos : Int)] W fun e w' => e = .returned (.bool false) ∧ Obf w' r 12 x.row.pos s fv t1 t2 t3 N ∧ Aw [r] W w' := fun W h => ofails_any r c o l k s _ t1 t2 t3 N 12 x.row.pos W h hs
  have kFm : ∀ W, Ob W r c o l k s fv t1 t2 t3 N → Calls Tryz.prog 76 #[.pointer (some ⟨r, 0, none⟩), .int .i64 12, .int .i64 (x.row.when_ : Int)] W fun e w' => e = .returned (.bool false) ∧ Obf w' r 12 x.row.when_ s fv t1 t2 t3 N ∧ Aw [r] W w' := fun W h => ofails_any r c o l k s _ t1 t2 t3 N 12 x.row.when_ W h hs
  obtain ⟨R, hR⟩ : ∃ R, valueP L role inf bM bS (valueO kind role x.row) = R := ⟨_, rfl⟩
  rw [hR]
  unfold valueO at hR
  have kP := fun W => parse_any x.row.text W htx
  have kQ := fun W => parse_any x.row.time W htm
  have hbd := parseD_bdO x.row.time.data.toList
  generalize parseD x.row.text.data.toList = PD at *
  generalize parseD x.row.time.data.toList = QD at *
  obtain ⟨⟨dM, dS⟩, code, kk⟩ := PD
  obtain ⟨⟨eM, eS⟩, code2, kk2⟩ := QD
  simp only at hR hbd
  unfold ParseE at kP kQ
  simp only at kP kQ
  have kS := fun W => secs_any eM eS (by omega) (by omega) W
  unfold SecE at kS
  generalize secD eM eS = SD at *
  obtain ⟨rises, hri⟩ : ∃ rises, (kind == 2 || (role == 1 || role == 3)) = rises := ⟨_, rfl⟩
  rw [hri] at hR
  obtain ⟨bad, hbad⟩ : ∃ bad, (decide (code ≠ 0) || (rises && decide (dM < 0))) = bad := ⟨_, rfl⟩
  rw [hbad] at hR
  have HRI := Lib.hid hri
  have HBAD := Lib.hid hbad
  have HR0 := Lib.hid hR
  have HA := Lib.hid (hA.trans hAa)
  have HAa := Lib.hid hAa
  clear hri hbad hR hA hAa hP h
  go_enter Tryz.func78, Tryz.ntmps78
  go_upto_region 1 with (fail)
  generalize w.alloc (.cells #[.int .i64 x.row.kind, .string x.row.name, .int .i64 x.row.off, .slice x.tA x.row.tags.length x.tc, .slice x.fA x.row.fields.length x.fc, .string x.row.text, .int .i64 x.row.pos, .bool x.row.timed, .string x.row.time, .int .i64 x.row.when_] 43) = W1 at *
  obtain ⟨p0, p1, p2, p3, p4, p5, p6, p7, p8⟩ := hP1.facts
  simp only at p1
  go_cut [9] from 15 to 30 (fun v wx => v = .bool rises ∧ wx = W1)
  case first =>
    have hri := HRI.out
    by_cases ha : kind = 2
    · have a1 : ((kind : Int) == 2) = true := by rw [beq_iff_eq]; omega
      have : Hid (rises = true) := Lib.hid (by rw [← hri]; simp [ha])
      clear hri ha
      go_wp2_with fail
      go_meet
      exact ⟨by rw [this.out], rfl⟩
    · have a1 : ((kind : Int) == 2) = false := by rw [beq_eq_false_iff_ne]; omega
      by_cases hb : role = 1
      · have a2 : ((role : Int) == 1) = true := by rw [beq_iff_eq]; omega
        have : Hid (rises = true) := Lib.hid (by rw [← hri]; simp [hb])
        clear hri ha hb
        go_wp2_with fail
        go_meet
        exact ⟨by rw [this.out], rfl⟩
      · have a2 : ((role : Int) == 1) = false := by rw [beq_eq_false_iff_ne]; omega
        by_cases hd : role = 3
        · have a3 : ((role : Int) == 3) = true := by rw [beq_iff_eq]; omega
          have : Hid (rises = true) := Lib.hid (by rw [← hri]; simp [hd])
          clear hri ha hb hd
          go_wp2_with fail
          go_meet
          exact ⟨by rw [this.out], rfl⟩
        · have a3 : ((role : Int) == 3) = false := by rw [beq_eq_false_iff_ne]; omega
          have : Hid (rises = false) := Lib.hid (by rw [← hri]; simp [ha, hb, hd])
          clear hri ha hb hd
          go_wp2_with fail
          go_meet
          exact ⟨by rw [this.out], rfl⟩
  case rest =>
  obtain ⟨rfl, hwc⟩ := hcut
  rw [hwc]
  clear hwc wc
  obtain ⟨c0, c1, c2, c3, c4, c5, c6, c7, c8, c9⟩ := hT.facts2
  go_upto_region 3 with (go_at_call 126; (with_reducible refine (kP _).mono ?_); rintro e w2 ⟨rfl, hA2⟩; have hA3 := hA2.alloc (.cells #[.int .i64 dM, .int .i64 (dS : Int)] 71); have hD3 := Blk.new w2 71 #[.int .i64 dM, .int .i64 (dS : Int)]; have hT3 := hT.aw hA3 (by simp); have hP3 := hP1.aw hA3 (by simp); have hO3 := HO.out _ (HA.out.trans hA3))
  have hTb := hT
  clear c0 c1 c2 c3 c4 c5 c6 c7 c8 c9 p0 p1 p2 p3 p4 p5 p6 p7 p8 hT hP1 kP
  generalize w2.alloc (.cells #[.int .i64 dM, .int .i64 (dS : Int)] 71) = W3 at *
  have hwd : w.heap.size < w2.heap.size := by have := Blk.lt hTb; have := hA2.size; omega
  generalize hdb : w2.heap.size = db at *
  have m0 := (Blk.cell hD3 0).trans rfl
  go_cut [47] from 38 to 47 (fun v wx => v = .bool bad ∧ wx = W3)
  case first =>
    have hb := HBAD.out
    by_cases h0 : code = 0
    · have g0 : ((code : Int) != 0) = false := by rw [bne_eq_false_iff_eq]; omega
      cases rises
      · have : Hid (bad = false) := Lib.hid (by rw [← hb]; simp [h0])
        clear hb h0
        go_wp2_with fail
        go_meet
        exact ⟨by rw [this.out], rfl⟩
      · by_cases hn : dM < 0
        · have n1 : decide (dM < 0) = true := decide_eq_true hn
          have : Hid (bad = true) := Lib.hid (by rw [← hb]; simp [hn])
          clear hb h0 hn
          go_wp2_with fail
          go_meet
          exact ⟨by rw [this.out], rfl⟩
        · have n1 : decide (dM < 0) = false := decide_eq_false hn
          have : Hid (bad = false) := Lib.hid (by rw [← hb]; simp [h0, hn])
          clear hb h0 hn
          go_wp2_with fail
          go_meet
          exact ⟨by rw [this.out], rfl⟩
    · have g0 : ((code : Int) != 0) = true := by rw [bne_iff_ne]; omega
      have : Hid (bad = true) := Lib.hid (by rw [← hb]; simp [h0])
      clear hb h0
      go_wp2_with fail
      go_meet
      exact ⟨by rw [this.out], rfl⟩
  case rest =>
  obtain ⟨rfl, hwc⟩ := hcut
  rw [hwc]
  clear hwc wc
  obtain ⟨c0, c1, c2, c3, c4, c5, c6, c7, c8, c9⟩ := hT3.facts2
  obtain ⟨p0, p1, p2, p3, p4, p5, p6, p7, p8⟩ := hP3.facts
  have m1 := (Blk.cell hD3 1).trans rfl
  cases bad
  case true =>
    have hR := HR0.out
    rw [if_pos rfl] at hR
    simp only [valueP] at hR
    subst hR
    clear HRI HBAD HR0
    go_wp2_with (go_at_call 76; (with_reducible refine (kFt _ hO3.rd).mono ?_); rintro e w5 ⟨rfl, h5, hA5⟩)
    go_ret
    exact ⟨rfl, ⟨_, _, _, _, _, _, h5, rfl⟩, Aw.rp0 (HAa.out.trans hA3) hA5⟩
  have hR := HR0.out
  rw [if_neg (by decide)] at hR
  clear HR0 HRI HBAD
  have f5 := Blk.frozen hP3 5
  have f6 := Blk.frozen hP3 6
  cases htd : x.row.timed
  case false =>
    rw [htd] at hR c7
    simp only [Bool.not_false, if_true, valueP] at hR
    subst hR
    clear htd
    go_wp2_with fail
    go_ret
    exact ⟨rfl, hP3.value_ dM dS, (HAa.out.trans hA3).two (by simp)⟩
  rw [htd] at hR c7
  simp only [Bool.not_true, Bool.false_eq_true, if_false] at hR
  clear htd
  have hdp : db ≠ pb := by omega
  have htp : w.heap.size ≠ pb := by omega
  have hHR := Lib.hid hR
  clear hR
  go_upto_region 8 with (fail)
  have hP4 := hP3.value_ dM dS
  have hT4 : RowAt _ w.heap.size x := Blk.far (Blk.far hT3 (p := ⟨pb, 5, none⟩) htp (.int .i64 dM)) (p := ⟨pb, 6, none⟩) htp (.int .i64 (dS : Int))
  have hD4 := Blk.far (Blk.far hD3 (p := ⟨pb, 5, none⟩) hdp (.int .i64 dM)) (p := ⟨pb, 6, none⟩) hdp (.int .i64 (dS : Int))
  have hA4 : Aw [pb] w _ := (HAa.out.trans hA3).two (pb := pb) (i := 5) (j := 6) (u := .int .i64 dM) (v := .int .i64 (dS : Int)) (by simp)
  have HA4 : Aw [] wP _ := ((HA.out.trans hA3).setCell (p := ⟨pb, 5, none⟩) (.inr hpb) (.int .i64 dM)).setCell (p := ⟨pb, 6, none⟩) (.inr hpb) (.int .i64 (dS : Int))
  clear c0 c1 c2 c3 c4 c5 c6 c7 c8 c9 p0 p1 p2 p3 p4 p5 p6 p7 p8 f5 f6 m0 m1 hO3 hP3 hT3 hD3 hA3
  generalize (W3.setCell ⟨pb, 5, none⟩ (.int .i64 dM)).setCell ⟨pb, 6, none⟩ (.int .i64 (dS : Int)) = W4 at *
  obtain ⟨c0, c1, c2, c3, c4, c5, c6, c7, c8, c9⟩ := hT4.facts2
  go_upto_region 9 with (go_at_call 126; (with_reducible refine (kQ _).mono ?_); rintro e w5 ⟨rfl, hA5⟩; have hD5 := Blk.aw hD4 hA5 (by simp); have m0 := (Blk.cell hD5 0).trans rfl; have m1 := (Blk.cell hD5 1).trans rfl; have z0 := Blk.frozen hD5 0; have z1 := Blk.frozen hD5 1)
  have hD6 := Blk.set_ (Blk.set_ hD5 0 (.int .i64 eM)) 1 (.int .i64 (eS : Int))
  have hT6 : RowAt _ w.heap.size x := Blk.far (Blk.far (hT4.aw hA5 (by simp)) (p := ⟨db, 0, none⟩) (by show w.heap.size ≠ db; omega) (.int .i64 eM)) (p := ⟨db, 1, none⟩) (by show w.heap.size ≠ db; omega) (.int .i64 (eS : Int))
  have hP6 : Pb _ pb lv ⟨L, role, inf, bM, bS, dM, dS, false, 0⟩ := Blk.far (Blk.far (hP4.aw hA5 (by simp)) (p := ⟨db, 0, none⟩) (by show pb ≠ db; omega) (.int .i64 eM)) (p := ⟨db, 1, none⟩) (by show pb ≠ db; omega) (.int .i64 (eS : Int))
  have hA6 : Aw [pb] w _ := ((hA4.trans (hA5.mono (by simp))).setCell (p := ⟨db, 0, none⟩) (.inr (by show w.heap.size ≤ db; omega)) (.int .i64 eM)).setCell (p := ⟨db, 1, none⟩) (.inr (by show w.heap.size ≤ db; omega)) (.int .i64 (eS : Int))
  have hwP : wP.heap.size ≤ db := by have := HA.out.size; have := hpw; omega
  have HA6 : Aw [] wP _ := ((HA4.trans hA5).setCell (p := ⟨db, 0, none⟩) (.inr hwP) (.int .i64 eM)).setCell (p := ⟨db, 1, none⟩) (.inr hwP) (.int .i64 (eS : Int))
  clear c0 c1 c2 c3 c4 c5 c6 c7 c8 c9 m0 m1 z0 z1 hD5 hD4 hT4 hP4 hA4 HA4 hA5 kQ
  generalize (w5.setCell ⟨db, 0, none⟩ (.int .i64 eM)).setCell ⟨db, 1, none⟩ (.int .i64 (eS : Int)) = W6 at *
  have m0 : W6.cell? ⟨db, 0, none⟩ = some (.int .i64 eM) := (Blk.cell hD6 0).trans rfl
  have m1 : W6.cell? ⟨db, 1, none⟩ = some (.int .i64 (eS : Int)) := (Blk.cell hD6 1).trans rfl
  have hR := hHR.out
  clear hHR
  by_cases h2 : code2 = 0
  case neg =>
    have g2 : ((code2 : Int) != 0) = true := by rw [bne_iff_ne]; omega
    rw [if_pos h2] at hR
    simp only [valueP] at hR
    subst hR
    clear h2
    go_wp2_with (first
      | (go_at_call 127; (with_reducible refine (kS _).mono ?_); rintro e w7 ⟨rfl, hA7⟩; have hT7 := hT6.aw hA7 (by simp); have hO7 := HO.out _ (HA6.trans hA7); obtain ⟨c0, c1, c2, c3, c4, c5, c6, c7, c8, c9⟩ := hT7.facts2)
      | (go_at_call 76; (with_reducible refine (kFm _ hO7.rd).mono ?_); rintro e w8 ⟨rfl, h8, hA8⟩))
    go_ret
    exact ⟨rfl, ⟨_, _, _, _, _, _, h8, rfl⟩, Aw.rp1 (hA6.trans (hA7.mono (by simp))) hA8⟩
  have g2 : ((code2 : Int) != 0) = false := by rw [bne_eq_false_iff_eq]; omega
  rw [if_neg (by omega)] at hR
  clear h2
  cases SD with
  | none =>
    simp only [valueP] at hR
    simp only [Option.getD_none, Option.isSome_none] at kS
    subst hR
    go_wp2_with (first
      | (go_at_call 127; (with_reducible refine (kS _).mono ?_); rintro e w7 ⟨rfl, hA7⟩; have hT7 := hT6.aw hA7 (by simp); have hO7 := HO.out _ (HA6.trans hA7); obtain ⟨c0, c1, c2, c3, c4, c5, c6, c7, c8, c9⟩ := hT7.facts2)
      | (go_at_call 76; (with_reducible refine (kFm _ hO7.rd).mono ?_); rintro e w8 ⟨rfl, h8, hA8⟩))
    go_ret
    exact ⟨rfl, ⟨_, _, _, _, _, _, h8, rfl⟩, Aw.rp1 (hA6.trans (hA7.mono (by simp))) hA8⟩
  | some ms =>
    simp only [valueP] at hR
    simp only [Option.getD_some, Option.isSome_some] at kS
    subst hR
    go_wp2_with (go_at_call 127; (with_reducible refine (kS _).mono ?_); rintro e w7 ⟨rfl, hA7⟩; have hP7 := hP6.aw hA7 (by simp); obtain ⟨p0, p1, p2, p3, p4, p5, p6, p7, p8⟩ := hP7.facts; have f7 := Blk.frozen hP7 7; have f8 := Blk.frozen hP7 8)
    go_ret
    exact ⟨rfl, hP7.time_ ms, ((hA6.trans (hA7.mono (by simp))).setCell (.inl (by simp)) _).setCell (.inl (by simp)) _⟩
end
section
def bndO (role : Nat) (own : Option MTag) (off : Nat) : Except OErr (Bool × Int × Nat) := if role = 1 ∨ role = 2 then (match own with | none => .error (13, off) | some t => boundO role t) else .ok (false, 0, 0)
def finO (q : ORd) (role : Nat) (SL : List Lab) (b : Bool × Int × Nat) (v : (Int × Nat) × Bool × Int) (off : Nat) : Except OErr ORd :=
  if ((q.fams.getLast?.map MFam.pts).getD []).any (samePnt ⟨SL, role, b.1, b.2.1, b.2.2, v.1.1, v.1.2, v.2.1, v.2.2⟩) then .error (13, off)
  else if 120 ≤ q.pts then .error (14, off)
  else .ok { q with fams := onLast q.fams fun f => { f with pts := f.pts ++ [⟨SL, role, b.1, b.2.1, b.2.2, v.1.1, v.1.2, v.2.1, v.2.2⟩] }, pts := q.pts + 1 }
theorem sampleO_eq (r : ORd) (x : MRow) : sampleO r x = match ownerO r x with
  | .error e => .error e
  | .ok (role, q) => match tagsO role x.tags 0 x.tags none [] with
    | .error e => .error e
    | .ok (own, l) => match bndO role own x.off with
      | .error e => .error e
      | .ok b => match valueO ((q.fams.getLast?.map MFam.kind).getD 0) role x with
        | .error e => .error e
        | .ok v => finO q role ((sortL l).getD []) b v x.off := by
  unfold sampleO bndO finO
  rfl
theorem bndO_bd {role off : Nat} {own : Option MTag} {b : Bool × Int × Nat} (h : bndO role own off = .ok b) : -9223372036854775808 ≤ b.2.1 ∧ b.2.1 ≤ 9223372036854775807 := by
  unfold bndO at h
  split at h
  · split at h
    · cases h
    · rename_i t
      unfold boundO at h
      split at h
      · injection h with h; subst h; simp
      split at h
      · cases h
      split at h
      · cases h
      · injection h with h; subst h
        have := parseD_bdO t.value.data.toList
        simp only
        omega
  · injection h with h; subst h; simp
theorem sortO_len (l : List Lab) : ((sortL l).getD []).length ≤ l.length := by
  unfold sortL
  split
  · simp
  · simp
theorem tagsO_len {role : Nat} {ts : List MTag} {own' : Option MTag} {l' : List Lab} : ∀ (r : List MTag) (k : Nat) (own : Option MTag) (l : List Lab), l.length ≤ 8 → tagsO role ts k r own l = .ok (own', l') → l'.length ≤ 8
  | [], _, _, l, hl, h => by simp only [tagsO] at h; injection h with h; injection h with _ h; subst h; exact hl
  | t :: r, k, own, l, hl, h => by
    rw [tagsO] at h
    split at h
    · cases h
    split at h
    · cases h
    split at h
    · cases h
    split at h
    · exact tagsO_len r (k + 1) _ l hl h
    split at h
    · cases h
    · exact tagsO_len r (k + 1) own _ (by simp; omega) h
theorem OOk.put {fs : List VFam} {N i : Nat} {X : VFam} {p : VPnt} {A : Option Addr} {cc : Nat} (h : OOk fs N) (hN : N < 120) (hX : fs[i]? = some X) (kp : PntOk p.pt) : OOk (fs.set i (X.putP p A cc)) (N + 1) :=
  ⟨by rw [List.length_set]; exact h.len, by omega, fun f hf => by
    rcases List.mem_or_eq_of_mem_set hf with h1 | h1
    · obtain ⟨q1, q2, q3, q4⟩ := h.fam f h1
      exact ⟨q1, q2, by omega, q4⟩
    · subst h1
      obtain ⟨q1, q2, q3, q4⟩ := h.fam X (List.mem_of_getElem? hX)
      refine ⟨q1, q2, by show (X.pts ++ [p]).length ≤ N + 1; simp; exact q3, fun y hy => ?_⟩
      rcases List.mem_append.1 hy with hy | hy
      · exact q4 y hy
      · rw [List.mem_singleton] at hy; subst hy; exact kp⟩
theorem FamsAt.own_grownN {w w' : World} {base n : Nat} {fv : Value} {fs : List VFam} {X : VFam} (h : FamsAt w base fv fs) (hx : X ∈ fs) (hg : w.grownBy w' X.pv.ownBlock) (hn : fs.length = n) : w'.ownsRow base 68 5 fv n (fs.flatMap famCell) := by
  subst hn
  exact h.own_grown hx hg
set_option maxRecDepth 100000 in
set_option maxHeartbeats 12800000 in
theorem osample_all (r : Nat) (c o l k : Int) (s : ByteArray) (fv : Value) (fs : List VFam) (t1 t2 t3 : Bool) (N B : Nat) (x : VRow) (w0 w : World) (h : OA w0 w r c o l k s fv fs t1 t2 t3 N) (hs : s.size ≤ 1048576) (kf : OOk fs N) (htx : x.row.text.size ≤ 1048576) (htm : x.row.time.size ≤ 1048576) (hbig : ∀ t ∈ x.row.tags, t.value.size ≤ 1048576) (ht : IsRows tagCell 4 w0 B x.tA x.row.tags.length x.row.tags) (hB : B ≤ w0.heap.size) (hBr : B ≤ r) (hn : x.row.tags.length ≤ 1048576) (hcap : x.row.tags.length ≤ x.tc) :
    Calls Tryz.prog 43 #[.pointer (some ⟨r, 0, none⟩), .agg #[.int .i64 x.row.kind, .string x.row.name, .int .i64 x.row.off, .slice x.tA x.row.tags.length x.tc, .slice x.fA x.row.fields.length x.fc, .string x.row.text, .int .i64 x.row.pos, .bool x.row.timed, .string x.row.time, .int .i64 x.row.when_]] w fun e w' => RowP w0 w' r c o l k s (sampleO ⟨fs.map VFam.fam, t1, t2, t3, N⟩ x.row) e := by
  obtain ⟨x0, hx0, hxz0, hxz1, hxz2⟩ := info_parts Tryz.infoPnt
  have hu : Tryz.prog.underlying 66 = some (.slice 73) := by kernel_rfl
  have hmf : ∀ (fn : Fn) (first cap : Array Value) (w : World), (Instr.makeFunc fn first cap).run Tryz.prog w = .ok (.func fn first cap) w := fun _ _ _ _ => rfl
  have h1 := h.alloc (.cells #[.int .i64 x.row.kind, .string x.row.name, .int .i64 x.row.off, .slice x.tA x.row.tags.length x.tc, .slice x.fA x.row.fields.length x.fc, .string x.row.text, .int .i64 x.row.pos, .bool x.row.timed, .string x.row.time, .int .i64 x.row.when_] 43)
  have hR : RowAt _ w.heap.size x := Blk.new w 43 #[.int .i64 x.row.kind, .string x.row.name, .int .i64 x.row.off, .slice x.tA x.row.tags.length x.tc, .slice x.fA x.row.fields.length x.fc, .string x.row.text, .int .i64 x.row.pos, .bool x.row.timed, .string x.row.time, .int .i64 x.row.when_]
  have hrb : w.heap.size ≠ r := by have := h.rd.lt; omega
  have hrl := h.rl
  have kW := oowner_all r c o l k s fv fs t1 t2 t3 N x w0 _ h1 hs kf
  obtain ⟨R, hRR⟩ : ∃ R, sampleO ⟨fs.map VFam.fam, t1, t2, t3, N⟩ x.row = R := ⟨_, rfl⟩
  rw [hRR]
  rw [sampleO_eq] at hRR
  have hxw : x.row.tags.length = x.row.tags.length := rfl
  clear h h1 hxw
  cases hno : ownerO ⟨fs.map VFam.fam, t1, t2, t3, N⟩ x.row with
  | error e0 =>
    rw [hno] at kW hRR
    simp only at hRR
    subst hRR
    unfold OwnerP at kW
    simp only at kW
    clear hno
    obtain ⟨c0, c1, c2, c3, c4, c5, c6, c7, c8, c9⟩ := hR.facts2
    go_enter Tryz.func43, Tryz.ntmps43
    go_wp2_with (go_at_call 73; (with_reducible refine kW.mono ?_); rintro e w2 ⟨rfl, hf2, hA2⟩)
    go_ret
    exact ⟨rfl, hf2, hA2⟩
  | ok rq =>
  obtain ⟨role, q⟩ := rq
  rw [hno] at kW hRR
  unfold OwnerP at kW
  simp only at kW hRR
  clear hno
  obtain ⟨c0, c1, c2, c3, c4, c5, c6, c7, c8, c9⟩ := hR.facts2
  have HRR := Lib.hid hRR
  clear hRR
  go_enter Tryz.func43, Tryz.ntmps43
  go_upto_region 4 with (go_at_call 73; (with_reducible refine kW.mono ?_); rintro e w2 ⟨rfl, ⟨fv2, fs2, hq2, hO2, hK2, i, hi⟩, hkp⟩; have hR2 : RowAt w2 w.heap.size x := hkp _ _ _ hR hrb (by decide))
  clear kW hkp c0 c1 c2 c3 c4 c5 c6 c7 c8 c9 hR kf
  obtain ⟨X, hX⟩ : ∃ X, fs2[i]? = some X := ⟨fs2[i], List.getElem?_eq_getElem (by omega)⟩
  have hlast : q.fams.getLast? = some X.fam := by
    rw [← hq2, List.getLast?_eq_getElem?, List.length_map, hi, Nat.add_sub_cancel, List.getElem?_map, hX]; rfl
  have hl2 := hK2.len
  obtain ⟨g, fc, rfl, hg, _⟩ := stands_last r c o l k s fv2 fs2 q.t1 q.t2 q.t3 q.pts i w0 w2 hO2 hi (by omega)
  have hgw := hO2.fams.g_lt.2
  have kS : ∀ W, OA w0 W r c o l k s (.slice (some ⟨g, 0, none⟩) (i + 1) fc) fs2 q.t1 q.t2 q.t3 q.pts → Calls Tryz.prog 75 #[.pointer (some ⟨r, 0, none⟩)] W fun e w' => e = .returned (.pointer (some ⟨g, i * 5, none⟩)) ∧ Aw [] W w' := fun W hW => by
    obtain ⟨g', fc', e, _, k⟩ := stands_last r c o l k s _ fs2 q.t1 q.t2 q.t3 q.pts i w0 W hW hi (by omega)
    injection e with e1 e2 e3
    injection e1 with e1
    injection e1 with e1 e4
    subst e1
    exact k
  have ht2 : IsRows tagCell 4 w2 B x.tA x.row.tags.length x.row.tags := ht.aw hO2.aw hB (by simpa using hBr)
  have hBw : B ≤ w2.heap.size := Nat.le_trans hB hO2.aw.size
  go_upto_region 5 with (fail)
  have hP3 : Pb (w2.alloc (.cells #[.slice none 0 0, .int .i64 (role : Int), .bool false, .int .i64 0, .int .i64 0, .int .i64 0, .int .i64 0, .bool false, .int .i64 0] 73)) w2.heap.size (.slice none 0 0) ⟨[], role, false, 0, 0, 0, 0, false, 0⟩ := Blk.new w2 _ _
  have hA3 := (Aw.refl [] w2).alloc (.cells #[.slice none 0 0, .int .i64 (role : Int), .bool false, .int .i64 0, .int .i64 0, .int .i64 0, .int .i64 0, .bool false, .int .i64 0] 73)
  have hR3 := hR2.aw hA3 (by simp)
  have hpw := Blk.lt hP3
  generalize w2.alloc (.cells #[.slice none 0 0, .int .i64 (role : Int), .bool false, .int .i64 0, .int .i64 0, .int .i64 0, .int .i64 0, .bool false, .int .i64 0] 73) = W3 at *
  obtain ⟨pb, hpb⟩ : ∃ pb, w2.heap.size = pb := ⟨_, rfl⟩
  rw [hpb] at hP3 hpw ⊢
  have kT := otags_all r pb c o l k s _ fs2 q.t1 q.t2 q.t3 q.pts role B x w0 w2 W3 hO2 hA3 (by omega) hP3 hs ht2 hBw hn hcap
  obtain ⟨c0, c1, c2, c3, c4, c5, c6, c7, c8, c9⟩ := hR3.facts2
  cases htg : tagsO role x.row.tags 0 x.row.tags none [] with
  | error e0 =>
    have hRR := HRR.out
    rw [htg] at kT hRR
    simp only at hRR
    subst hRR
    unfold TagsP at kT
    simp only at kT
    clear HRR htg
    go_wp2_with (go_at_call 74; (with_reducible refine kT.mono ?_); rintro e w4 ⟨rfl, ⟨_, _, _, _, _, _, hf4, rfl⟩, hA4⟩)
    go_ret
    exact ⟨rfl, ⟨_, _, _, _, _, hf4⟩, hA4⟩
  | ok ol =>
  obtain ⟨own, ll⟩ := ol
  have hRR := HRR.out
  rw [htg] at kT hRR
  unfold TagsP at kT
  simp only at kT hRR
  have hSLn := tagsO_len _ _ _ _ (by simp) htg
  have hSL := sortO_len ll
  have hownm : ∀ t, own = some t → t.value.size ≤ 1048576 := fun t ht => by
    rcases tags_own _ _ _ _ htg with e | ⟨t', ht', e⟩
    · rw [ht] at e; cases e
    · rw [ht] at e; injection e with e; subst e; exact hbig _ ht'
  generalize (sortL ll).getD [] = SL at *
  have HRR2 := Lib.hid hRR
  clear HRR hRR htg
  go_upto_block 0 with (first
    | (go_at_call 74; (with_reducible refine kT.mono ?_); rintro e w4 ⟨⟨jo, rfl, hOI⟩, A, cp, hP4, hL4, hA4⟩; have hO4 := hO2.call hA4)
    | (go_at_call 75; (with_reducible refine (kS _ hO4).mono ?_); rintro e w5 ⟨rfl, hA5⟩; have hA25 := hA4.trans hA5; have hO5 := hO4.call hA5; have hR5 := hR2.aw hA25 (by simp); have hP5 := hP4.aw hA5 (by simp); have hL5 := own_aw hL4 hA5 (by simp)))
  have htw := Blk.lt hR2
  clear kT kS c0 c1 c2 c3 c4 c5 c6 c7 c8 c9 hP4 hL4 hA4 hA5 hO4 hP3 hA3 hR3 hR2
  have ht5 : IsRows tagCell 4 w5 B x.tA x.row.tags.length x.row.tags := ht2.aw hA25 hBw (by simp)
  obtain ⟨c0, c1, c2, c3, c4, c5, c6, c7, c8, c9⟩ := hR5.facts2
  have kF13 : ∀ W, Ob W r c o l k s (.slice (some ⟨g, 0, none⟩) (i + 1) fc) q.t1 q.t2 q.t3 q.pts → Calls Tryz.prog 76 #[.pointer (some ⟨r, 0, none⟩), .int .i64 13, .int .i64 (x.row.off : Int)] W fun e w' => e = .returned (.bool false) ∧ Obf w' r 13 x.row.off s (.slice (some ⟨g, 0, none⟩) (i + 1) fc) q.t1 q.t2 q.t3 q.pts ∧ Aw [r] W w' := fun W h => ofails_any r c o l k s _ q.t1 q.t2 q.t3 q.pts 13 x.row.off W h hs
  have kF14 : ∀ W, Ob W r c o l k s (.slice (some ⟨g, 0, none⟩) (i + 1) fc) q.t1 q.t2 q.t3 q.pts → Calls Tryz.prog 76 #[.pointer (some ⟨r, 0, none⟩), .int .i64 14, .int .i64 (x.row.off : Int)] W fun e w' => e = .returned (.bool false) ∧ Obf w' r 14 x.row.off s (.slice (some ⟨g, 0, none⟩) (i + 1) fc) q.t1 q.t2 q.t3 q.pts ∧ Aw [r] W w' := fun W h => ofails_any r c o l k s _ q.t1 q.t2 q.t3 q.pts 14 x.row.off W h hs
  cases hbo : bndO role own x.row.off with
  | error e0 =>
    have hRR := HRR2.out
    rw [hbo] at hRR
    simp only at hRR
    subst hRR
    have hrr : role = 1 ∨ role = 2 := by
      unfold bndO at hbo
      split at hbo
      · assumption
      · cases hbo
    unfold bndO at hbo
    rw [if_pos hrr] at hbo
    clear HRR2
    cases own with
    | none =>
      simp only at hbo
      injection hbo with hbo
      subst hbo
      have hj : jo = -1 := hOI
      subst hj
      have HO5 := Lib.hid hO5
      rcases hrr with hr1 | hr1
      · have a1 : ((role : Int) != 1) = false := by rw [bne_eq_false_iff_eq]; omega
        clear hr1
        go_wp2_with (go_at_call 76; (with_reducible refine (kF13 _ HO5.out.rd).mono ?_); rintro e w6 ⟨rfl, h6, hA6⟩)
        go_ret
        exact ⟨rfl, ⟨_, _, _, _, _, h6⟩, HO5.out.aw.trans hA6⟩
      · have a1 : ((role : Int) != 1) = true := by rw [bne_iff_ne]; omega
        have a2 : ((role : Int) != 2) = false := by rw [bne_eq_false_iff_eq]; omega
        clear hr1
        go_wp2_with (go_at_call 76; (with_reducible refine (kF13 _ HO5.out.rd).mono ?_); rintro e w6 ⟨rfl, h6, hA6⟩)
        go_ret
        exact ⟨rfl, ⟨_, _, _, _, _, h6⟩, HO5.out.aw.trans hA6⟩
    | some T =>
      simp only at hbo
      have kB := obound_all r pb c o l k s _ fs2 q.t1 q.t2 q.t3 q.pts role (.slice A SL.length cp) SL T w0 w2 w5 hO2 hA25 (by omega) hP5 hs (hownm T rfl) hrr
      rw [hbo] at kB
      simp only [boundP, PartP] at kB
      obtain ⟨m, rfl, hTm⟩ := hOI
      have hml : m < x.row.tags.length := (List.getElem?_eq_some_iff.1 hTm).1
      obtain ⟨tb, tf, eA, _, hcs⟩ := ht5.2 (by omega)
      have q0 : w5.cell? ⟨tb, tf + m * 4, none⟩ = some (.string T.name) := hcs m T 0 _ hTm rfl
      have q1 : w5.cell? ⟨tb, tf + m * 4 + 1, none⟩ = some (.string T.value) := hcs m T 1 _ hTm rfl
      have q2 : w5.cell? ⟨tb, tf + m * 4 + 2, none⟩ = some (.int .i64 (T.off : Int)) := hcs m T 2 _ hTm rfl
      have q3 : w5.cell? ⟨tb, tf + m * 4 + 3, none⟩ = some (.int .i64 (T.pos : Int)) := hcs m T 3 _ hTm rfl
      have m0 : (0 : Int) ≤ (m : Int) := by omega
      have m1 : (m : Int) < (x.row.tags.length : Int) := by omega
      have m2 : decide ((m : Int) < 0) = false := decide_eq_false (by omega)
      rw [eA] at c3 ⊢
      have HO5 := Lib.hid hO5
      have hgp : w0.heap.size ≤ pb := by omega
      clear hP5 hL5 hbo ht5 hcs hTm hO5
      rcases hrr with hr1 | hr1
      · have a1 : ((role : Int) != 1) = false := by rw [bne_eq_false_iff_eq]; omega
        clear hr1
        go_wp2_with (go_at_call 77; (with_reducible refine kB.mono ?_); rintro e w6 ⟨rfl, ⟨_, _, _, _, _, _, h6, rfl⟩, hA6⟩)
        go_ret
        exact ⟨rfl, ⟨_, _, _, _, _, h6⟩, HO5.out.aw.own hA6 (by intro k hk; simp at hk; rcases hk with rfl | rfl; exact .inl (by simp); exact .inr hgp)⟩
      · have a1 : ((role : Int) != 1) = true := by rw [bne_iff_ne]; omega
        have a2 : ((role : Int) != 2) = false := by rw [bne_eq_false_iff_eq]; omega
        clear hr1
        go_wp2_with (go_at_call 77; (with_reducible refine kB.mono ?_); rintro e w6 ⟨rfl, ⟨_, _, _, _, _, _, h6, rfl⟩, hA6⟩)
        go_ret
        exact ⟨rfl, ⟨_, _, _, _, _, h6⟩, HO5.out.aw.own hA6 (by intro k hk; simp at hk; rcases hk with rfl | rfl; exact .inl (by simp); exact .inr hgp)⟩
  | ok b =>
  have hRR := HRR2.out
  rw [hbo, hlast] at hRR
  simp only [Option.map_some, Option.getD_some] at hRR
  have eK : X.fam.kind = X.kind := rfl
  rw [eK] at hRR
  have hbb := bndO_bd hbo
  have HBO := Lib.hid hbo
  have HRR3 := Lib.hid hRR
  clear HRR2 hRR hbo eK
  go_cut [] from 30 to 52 (fun wx => Hid (Pb wx pb (.slice A SL.length cp) ⟨SL, role, b.1, b.2.1, b.2.2, 0, 0, false, 0⟩) ∧ Aw [pb] w5 wx)
  case first =>
    have hbo := HBO.out
    by_cases hrr : role = 1 ∨ role = 2
    · unfold bndO at hbo
      rw [if_pos hrr] at hbo
      cases own with
      | none => cases hbo
      | some T =>
        simp only at hbo
        have kB := obound_all r pb c o l k s _ fs2 q.t1 q.t2 q.t3 q.pts role (.slice A SL.length cp) SL T w0 w2 w5 hO2 hA25 (by omega) hP5 hs (hownm T rfl) hrr
        rw [hbo] at kB
        simp only [boundP, PartP] at kB
        obtain ⟨m, rfl, hTm⟩ := hOI
        have hml : m < x.row.tags.length := (List.getElem?_eq_some_iff.1 hTm).1
        obtain ⟨tb, tf, eA, _, hcs⟩ := ht5.2 (by omega)
        have q0 : w5.cell? ⟨tb, tf + m * 4, none⟩ = some (.string T.name) := hcs m T 0 _ hTm rfl
        have q1 : w5.cell? ⟨tb, tf + m * 4 + 1, none⟩ = some (.string T.value) := hcs m T 1 _ hTm rfl
        have q2 : w5.cell? ⟨tb, tf + m * 4 + 2, none⟩ = some (.int .i64 (T.off : Int)) := hcs m T 2 _ hTm rfl
        have q3 : w5.cell? ⟨tb, tf + m * 4 + 3, none⟩ = some (.int .i64 (T.pos : Int)) := hcs m T 3 _ hTm rfl
        have m0 : (0 : Int) ≤ (m : Int) := by omega
        have m1 : (m : Int) < (x.row.tags.length : Int) := by omega
        have m2 : decide ((m : Int) < 0) = false := decide_eq_false (by omega)
        rw [eA] at c3 ⊢
        have HP5 := Lib.hid hP5
        clear hP5 hL5 hbo HBO HRR3 ht5 hcs hTm
        rcases hrr with hr1 | hr1
        · have a1 : ((role : Int) != 1) = false := by rw [bne_eq_false_iff_eq]; omega
          clear hr1
          go_wp2_with (go_at_call 77; (with_reducible refine kB.mono ?_); rintro e w6 ⟨rfl, hP6, hA6⟩)
          rw [← eA]
          go_meet
          exact ⟨Lib.hid hP6, hA6⟩
        · have a1 : ((role : Int) != 1) = true := by rw [bne_iff_ne]; omega
          have a2 : ((role : Int) != 2) = false := by rw [bne_eq_false_iff_eq]; omega
          clear hr1
          go_wp2_with (go_at_call 77; (with_reducible refine kB.mono ?_); rintro e w6 ⟨rfl, hP6, hA6⟩)
          rw [← eA]
          go_meet
          exact ⟨Lib.hid hP6, hA6⟩
    · unfold bndO at hbo
      rw [if_neg hrr] at hbo
      injection hbo with hbo
      subst hbo
      have a1 : ((role : Int) != 1) = true := by rw [bne_iff_ne]; omega
      have a2 : ((role : Int) != 2) = true := by rw [bne_iff_ne]; omega
      have HP5 := Lib.hid hP5
      clear hP5 hrr
      go_wp2_with fail
      go_meet
      exact ⟨HP5, Aw.refl _ _⟩
  case rest =>
  obtain ⟨HP6, hA6⟩ := hcut
  have hA2c : Aw [] w2 wc := hA25.own hA6 (by intro k hk; rw [List.mem_singleton] at hk; subst hk; exact .inr (by omega))
  have hOc := hO2.call hA2c
  have hRc := hR5.aw hA6 (by simp; omega)
  have hLc := own_aw hL5 hA6 (fun b' hb' hm => by
    rw [List.mem_singleton] at hm; subst hm
    exact own_blk_ne hL5 hP5 (by decide) hb')
  clear c0 c1 c2 c3 c4 c5 c6 c7 c8 c9 hR5 hL5 hP5 hO5 ht5 hA25 hA6 HBO hOI hownm ht2
  obtain ⟨c0, c1, c2, c3, c4, c5, c6, c7, c8, c9⟩ := hRc.facts2
  obtain ⟨y0, y1, y2, y3, y4⟩ := hOc.fams.cells_ hX
  have kV := ovalue_all r pb c o l k s _ fs2 q.t1 q.t2 q.t3 q.pts X.kind role b.2.2 b.1 b.2.1 (.slice A SL.length cp) SL x w0 w2 wc.drew hO2 hA2c.drew (by omega) (Blk.drew HP6.out) hs htx htm
  have hgp : w0.heap.size ≤ pb := by omega
  cases hvo : valueO X.kind role x.row with
  | error e0 =>
    have hRR := HRR3.out
    rw [hvo] at hRR kV
    simp only at hRR
    subst hRR
    simp only [valueP, PartP] at kV
    clear hvo HRR3
    go_upto_region 14 with (fail)
    go_region_law (go_simp; go_at_call 78; (with_reducible refine kV.mono ?_); rintro e w7 ⟨rfl, ⟨_, _, _, _, _, _, h7, rfl⟩, hA7⟩)
    all_goals
      go_wp2_with fail
      go_ret
      exact ⟨rfl, ⟨_, _, _, _, _, h7⟩, hOc.aw.drew.own hA7 (by intro k hk; simp at hk; rcases hk with rfl | rfl; exact .inl (by simp); exact .inr hgp)⟩
  | ok v =>
  have hRR := HRR3.out
  rw [hvo] at hRR kV
  simp only at hRR
  simp only [valueP, PartP] at kV
  unfold finO at hRR
  rw [hlast] at hRR
  simp only [Option.map_some, Option.getD_some] at hRR
  obtain ⟨p, hp⟩ : ∃ p : MPnt, p = ⟨SL, role, b.1, b.2.1, b.2.2, v.1.1, v.1.2, v.2.1, v.2.2⟩ := ⟨_, rfl⟩
  rw [← hp] at hRR kV
  have kp : PntOk p := ⟨by rw [hp]; exact hbb, by rw [hp]; show SL.length ≤ _; omega⟩
  have hpl : p.labels = SL := by rw [hp]
  have eP : X.fam.pts.any (samePnt p) = X.pts.any (fun y => samePnt p y.pt) := by
    show (X.pts.map VPnt.pt).any _ = _
    rw [List.any_map]; rfl
  simp only [eP] at hRR
  have HRR4 := Lib.hid hRR
  clear hvo HRR3 hRR hp eP hbb
  go_upto_region 14 with (fail)
  go_cut [61] from 53 to 61 (fun u wx => u = .bool false ∧ Pb wx pb (.slice A SL.length cp) p ∧ Aw [pb] wc wx)
  case first =>
    go_region_law (go_simp; go_at_call 78; (with_reducible refine kV.mono ?_); rintro e w7 ⟨rfl, hP7, hA7⟩)
    all_goals
      go_wp2_with fail
      go_meet
      exact ⟨rfl, hP7, (Aw.refl [pb] wc).drew.trans hA7⟩
  case rest =>
  obtain ⟨rfl, hP7, hA7⟩ := hcut
  clear kV
  have hA27 : Aw [] w2 _ := hA2c.own hA7 (by intro k hk; rw [List.mem_singleton] at hk; subst hk; exact .inr (by omega))
  have hO7 := hO2.call hA27
  have hR7 := hRc.aw hA7 (by simp; omega)
  have hL7 := own_aw hLc hA7 (fun b' hb' hm => by
    rw [List.mem_singleton] at hm; subst hm
    exact own_blk_ne hLc HP6.out (by decide) hb')
  clear c0 c1 c2 c3 c4 c5 c6 c7 c8 c9 y0 y1 y2 y3 y4 hRc hLc hOc hA2c hA7 HP6
  go_upto_block 1 with (fail)
  rw [← hpl] at hP7 hL7
  clear hpl
  have hXm := List.mem_of_getElem? hX
  obtain ⟨_, _, hKX3, hKX4⟩ := hK2.fam X hXm
  have hN := hK2.num
  have hrp : IsRows pntCell 9 wc wc.heap.size X.A X.pts.length X.pts := by
    obtain ⟨A', cap', e, hr⟩ := own_rws (f := pntCell) (fun _ => rfl) (hO7.fams.pts X hXm) rfl
    injection e with e1 e2 e3
    subst e1
    exact hr
  have kC := conP_any pb X.A X.pts.length X.c wc.heap.size X.pts (fun y => samePnt p y.pt) wc hrp (Nat.le_refl _) (by omega) (fun y hy W2 hA2 => same_any pb ⟨p, A, cp⟩ y W2 (hP7.aw hA2 (by simp)) (own_labO (own_aw hL7 hA2 (by simp)) rfl) (own_labO (own_aw (hO7.fams.lab X hXm y hy) hA2 (by simp)) rfl) kp (hKX4 y hy))
  obtain ⟨c0, c1, c2, c3, c4, c5, c6, c7, c8, c9⟩ := hR7.facts2
  obtain ⟨y0, y1, y2, y3, y4⟩ := hO7.fams.cells_ hX
  have hRR := HRR4.out
  clear HRR4
  cases hs2 : X.pts.any (fun y => samePnt p y.pt)
  case true =>
    rw [hs2] at kC
    simp only [hs2, if_true] at hRR
    subst hRR
    clear hs2
    go_wp2_with (first
      | (go_at_call 79; (with_reducible refine kC.mono ?_); rintro en w8 ⟨rfl, hA8⟩; have hO8 := hO7.call hA8; have hR8 := hR7.aw hA8 (by simp); obtain ⟨k0, k1, k2, k3, k4, k5, k6, k7, k8, k9⟩ := hR8.facts2)
      | (go_at_call 76; (with_reducible refine (kF13 _ hO8.rd).mono ?_); rintro en w9 ⟨rfl, h9, hA9⟩))
    go_ret
    exact ⟨rfl, ⟨_, _, _, _, _, h9⟩, hO8.aw.trans hA9⟩
  rw [hs2] at kC
  simp only [hs2, Bool.false_eq_true, if_false] at hRR
  clear hs2
  by_cases h120 : 120 ≤ q.pts
  · rw [if_pos h120] at hRR
    have d2 : decide ((120 : Int) ≤ (q.pts : Int)) = true := decide_eq_true (by omega)
    have d2n : decide (120 ≤ q.pts) = true := decide_eq_true h120
    subst hRR
    clear h120
    go_wp2_with (first
      | (go_at_call 79; (with_reducible refine kC.mono ?_); rintro en w8 ⟨rfl, hA8⟩; have hO8 := hO7.call hA8; have hR8 := hR7.aw hA8 (by simp); obtain ⟨k0, k1, k2, k3, k4, k5, k6, k7, k8, k9⟩ := hR8.facts2; obtain ⟨⟨_, _, _, _, _, _, _, _, _, _, v10⟩, _⟩ := hO8.rd.facts)
      | (go_at_call 76; (with_reducible refine (kF14 _ hO8.rd).mono ?_); rintro en w9 ⟨rfl, h9, hA9⟩))
    go_ret
    exact ⟨rfl, ⟨_, _, _, _, _, h9⟩, hO8.aw.trans hA9⟩
  rw [if_neg h120] at hRR
  have d2 : decide ((120 : Int) ≤ (q.pts : Int)) = false := decide_eq_false (by omega)
  have d2n : decide (120 ≤ q.pts) = false := decide_eq_false h120
  have HRR5 := Lib.hid hRR
  clear hRR
  go_upto_region 20 with (go_at_call 79; (with_reducible refine kC.mono ?_); rintro en w8 ⟨rfl, hA8⟩; have hO8 := hO7.call hA8; have hP8 := hP7.aw hA8 (by simp); have hL8 := own_lowL (own_aw hL7 hA8 (by simp)) hO2.aw.size; obtain ⟨⟨_, _, _, _, _, _, _, _, _, _, v10⟩, _⟩ := hO8.rd.facts)
  clear kC kF13 kF14 hrp c0 c1 c2 c3 c4 c5 c6 c7 c8 c9 y0 y1 y2 y3 y4 hP7 hL7 hR7 hO7 hA8
  obtain ⟨p0, p1, p2, p3, p4, p5, p6, p7, p8⟩ := hP8.facts
  obtain ⟨y0, y1, y2, y3, y4⟩ := hO8.fams.cells_ hX
  have hi8 : i < fs2.length := (List.getElem?_eq_some_iff.1 hX).1
  have hg8 := hO8.fams.g_lt
  have hrg : r ≠ g := by omega
  have hsz8 := hO8.aw.size
  have y4a : (w8.alloc (.cells #[.slice A p.labels.length cp, .int .i64 (p.role : Int), .bool p.inf, .int .i64 p.bM, .int .i64 (p.bS : Int), .int .i64 p.vM, .int .i64 (p.vS : Int), .bool p.timed, .int .i64 p.time] 73)).cell? ⟨g, i * 5 + 4, none⟩ = some (.slice X.A X.pts.length X.c) := (World.cell?_alloc_lt w8 _ ⟨g, _, none⟩ (lt_of_cell y4)).trans y4
  have hP8a : Pb (w8.alloc (.cells #[.slice A p.labels.length cp, .int .i64 (p.role : Int), .bool p.inf, .int .i64 p.bM, .int .i64 (p.bS : Int), .int .i64 p.vM, .int .i64 (p.vS : Int), .bool p.timed, .int .i64 p.time] 73)) pb _ _ := Blk.alloc hP8 _
  obtain ⟨e0, e1, e2, e3, e4, e5, e6, e7, e8⟩ := hP8a.facts
  have hown8 : w8.ownsRow w0.heap.size 68 5 (.slice (some ⟨g, 0, none⟩) (i + 1) fc) (i + 1) (fs2.flatMap famCell) := by have q := hO8.fams.own; rw [hi] at q; exact q
  have HFL := Lib.hid ((hown8.cellAt (i * 5 + 4) (by omega)).symm.trans y4)
  have HL8 := Lib.hid hL8
  have HRES := Lib.hid (fun (A' : Option Addr) (cc : Nat) => (OOk.put (A := A') (cc := cc) (p := ⟨p, A, cp⟩) hK2 (by omega) hX kp))
  clear hL8 hP8 hP8a
  go_region_law (refine step_append_lies _ (by rfl) _ _ _ (by rfl) w0.heap.size 73 x0 _ 9 88 hu hx0 hxz0 hxz1 hxz2 rfl (by omega) (.slice X.A X.pts.length X.c) X.pts.length (X.pts.flatMap pntCell) (by rfl) (hO8.drew.fams.pts X hXm |>.alloc _) ⟨w8.heap.size, 0, none⟩ 1 1 [.slice A p.labels.length cp, .int .i64 (p.role : Int), .bool p.inf, .int .i64 p.bM, .int .i64 (p.bS : Int), .int .i64 p.vM, .int .i64 (p.vS : Int), .bool p.timed, .int .i64 p.time] (by rfl) (by rfl) (World.news_of_block (heap_alloc_new w8.drew _)) (by simp [pntCell, Value.oneCell']) (by omega) (by simp [maxLen]; omega) (by omega) (by simp; omega) (w8.heap.size + 1) (by simp) ?_; intro gg capg w18 hown18 hgrow hat18 hlt18; have ho18 : w18.ownsRow w0.heap.size 68 5 (.slice (some ⟨g, 0, none⟩) (i + 1) fc) (i + 1) (fs2.flatMap famCell) := FamsAt.own_grownN (hO8.drew.alloc _).fams hXm hgrow hi; have f18 := ho18.frozenAt (i * 5 + 4); have c18 := (ho18.cellAt (i * 5 + 4) (by omega)).trans HFL.out)
  all_goals
    have hq18 := hO8.fams.pts X hXm
    have hFm : FamsAt (w8.drew.alloc (.cells #[.slice A p.labels.length cp, .int .i64 (p.role : Int), .bool p.inf, .int .i64 p.bM, .int .i64 (p.bS : Int), .int .i64 p.vM, .int .i64 (p.vS : Int), .bool p.timed, .int .i64 p.time] 73)) w0.heap.size (.slice (some ⟨g, 0, none⟩) fs2.length fc) fs2 := by rw [hi]; exact (hO8.drew.alloc _).fams
    have hF19 := FamsAt.put (p := ⟨p, A, cp⟩) hFm hX hgrow (by
      rcases hat18 with h1 | h1
      · exact .inl h1.symm
      · exact .inr fun b hb => by
          injection hb with hb
          subst hb
          simp [h1]) hown18 (HL8.out.drew.alloc _)
    rw [hi] at hF19
    have hr19 := (show Ob w18 r c o l k s (.slice (some ⟨g, 0, none⟩) (i + 1) fc) q.t1 q.t2 q.t3 q.pts from Blk.grown (w := _) (Blk.alloc hO8.drew.rd _) hgrow (fun e => own_blk_ne hq18 hO8.rd (by decide) e.symm)).far (p := ⟨g, i * 5 + 4, none⟩) hrg (.slice (some ⟨gg, 0, none⟩) (X.pts.length + 1) capg)
    have hA19 := ((hO8.drew.aw.alloc _).grown hgrow (fun k' hk => .inr (hq18.lt _ hk).1)).setCell (p := ⟨g, i * 5 + 4, none⟩) (.inr hg) (.slice (some ⟨gg, 0, none⟩) (X.pts.length + 1) capg)
    clear hgrow hown18 ho18 f18 c18 hat18 hlt18 hFm y0 y1 y2 y3 y4 y4a e0 e1 e2 e3 e4 e5 e6 e7 e8 p0 p1 p2 p3 p4 p5 p6 p7 p8
    generalize w18.setCell ⟨g, i * 5 + 4, none⟩ (.slice (some ⟨gg, 0, none⟩) (X.pts.length + 1) capg) = W19 at *
    obtain ⟨⟨_, _, _, _, _, _, _, _, _, _, u10⟩, fz⟩ := hr19.facts
    have fz10 := fz 10
    clear fz
    go_wp2_with fail
    go_ret
    rw [← HRR5.out]
    refine ⟨rfl, _, _, ?_, ⟨hr19.more, hF19.far hr19 (by decide) (by decide) (by decide) 10 _, hA19.setCell (.inl (by simp)) _, hrl⟩, HRES.out _ _⟩
    rw [← hq2]
    exact onLast_set hi hX (by simp [VFam.putP, VFam.fam])
end
section
/-! ### bounds of rows -/
theorem cutL_leO (l : List UInt8) (a b : Nat) : (cutL l a b).length ≤ l.length := by
  unfold cutL; rw [List.length_take, List.length_drop]; omega
theorem inkV_leO (l : List UInt8) (e : Int) (m : List UInt8) (n : Int) (a : Nat) (no : Bool) (h : a ≤ l.length) : (inkV l e m n a no).length ≤ l.length := by
  unfold inkV
  split
  · simp
  · have := ink_le l e m n a no h
    omega
structure RowOkO (l : List UInt8) (x : MRow) : Prop where
  kind : x.kind ≤ 3
  tags : x.tags.length ≤ l.length + 1
  name : x.name.size ≤ l.length
  text : x.text.size ≤ l.length
  time : x.time.size ≤ l.length
  vals : ∀ t ∈ x.tags, t.value.size ≤ l.length
theorem otagsGo_ok (l : List UInt8) : ∀ f a no acc, a ≤ l.length → (∀ t ∈ acc, t.value.size ≤ l.length) → (otagsGo l f a no acc).1.length ≤ acc.length + f ∧ ∀ t ∈ (otagsGo l f a no acc).1, t.value.size ≤ l.length
  | 0, a, no, acc, _, h => by simp only [otagsGo]; exact ⟨by omega, h⟩
  | f + 1, a, no, acc, ha, h => by
    have hv : (otagS l a false).1.value.size ≤ l.length := by
      unfold otagS
      simp only
      have h1 := nmS_le (l := l) owLabel false ha
      have h2 := wordS_le l wEq (nmS l owLabel a false).1 (nmS l owLabel a false).2 h1.2
      exact inkV_leO l 34 inV 110 _ _ h2.2
    have hn : ∀ t ∈ acc ++ [(otagS l a false).1], t.value.size ≤ l.length := fun t ht => by
      rcases List.mem_append.1 ht with ht | ht
      · exact h t ht
      · rw [List.mem_singleton.1 ht]; exact hv
    unfold otagsGo
    split
    · exact ⟨by simp, h⟩
    · split
      · rename_i hi
        have := (isB_lt hi).1
        have ih := otagsGo_ok l f ((otagS l a false).2.1 + 1) false (acc ++ [(otagS l a false).1]) (by omega) hn
        refine ⟨?_, ih.2⟩
        have h3 := ih.1
        simp at h3 ⊢; omega
      · exact ⟨by simp, hn⟩
theorem otagsS_ok (l : List UInt8) (a : Nat) (no : Bool) : (otagsS l a no).1.length ≤ l.length + 1 ∧ ∀ t ∈ (otagsS l a no).1, t.value.size ≤ l.length := by
  unfold otagsS
  split
  · rename_i hi
    have := (isB_lt hi).1
    split
    · exact ⟨by simp, by simp⟩
    · have := otagsGo_ok l (l.length + 1) (a + 1) false [] (by omega) (by simp)
      simpa using this
  · exact ⟨by simp, by simp⟩
theorem sampS_ok (l : List UInt8) (a : Nat) (no : Bool) : RowOkO l (sampS l a no).1 := by
  have hc : ∀ a b, (mkS (cutL l a b)).size ≤ l.length := fun a b => cutL_leO l a b
  unfold sampS
  simp only
  have ht := otagsS_ok l (nmS l owName a no).1 (nmS l owName a no).2
  split
  · exact ⟨Nat.zero_le _, ht.1, hc _ _, hc _ _, hc _ _, ht.2⟩
  · exact ⟨Nat.zero_le _, ht.1, hc _ _, hc _ _, Nat.zero_le _, ht.2⟩
theorem otoldS_ok (l : List UInt8) (kind : Nat) (word : List UInt8) (a : Nat) (no : Bool) (hk : kind ≤ 3) (ha : a ≤ l.length) : RowOkO l (otoldS l kind word a no).1 := by
  have hc : ∀ a b, (mkS (cutL l a b)).size ≤ l.length := fun a b => cutL_leO l a b
  unfold otoldS
  simp only
  have h1 := wordS_le l word a no ha
  have h2 := nmS_le (l := l) owName (wordS l word a no).2 h1.2
  have h3 := wordS_le l [32] _ (nmS l owName (wordS l word a no).1 (wordS l word a no).2).2 h2.2
  refine ⟨hk, by simp, hc _ _, ?_, Nat.zero_le _, by simp⟩
  show (otextS l kind _ _).1.length ≤ l.length
  unfold otextS
  split
  · exact hc _ _
  split
  · exact hc _ _
  · exact inkV_leO l 10 inH 110 _ _ h3.2
theorem olineS_ok (l : List UInt8) (a : Nat) (ha : a ≤ l.length) : ∀ x ∈ (olineS l a).1.1.toList, RowOkO l x := by
  unfold olineS
  have hw := wordS_le l wHash a false ha
  split
  · simp only
    split
    · intro x hx; simp at hx; subst hx; exact otoldS_ok l 1 _ _ _ (by omega) hw.2
    split
    · intro x hx; simp at hx; subst hx; exact otoldS_ok l 2 _ _ _ (by omega) hw.2
    split
    · intro x hx; simp at hx; subst hx; exact otoldS_ok l 3 _ _ _ (by omega) hw.2
    · simp
  · intro x hx; simp at hx; subst hx; exact sampS_ok l _ _
theorem olineS_leO (l : List UInt8) (a : Nat) (ha : a ≤ l.length) : (olineS l a).2.1 ≤ l.length := (olineS_le (l := l) ha).2
theorem orowsGo_ok (l : List UInt8) : ∀ f a acc, a ≤ l.length → (∀ x ∈ acc, RowOkO l x) → (orowsGo l f a acc).1.length ≤ acc.length + f ∧ ∀ x ∈ (orowsGo l f a acc).1, RowOkO l x
  | 0, a, acc, _, h => by simp only [orowsGo]; exact ⟨by omega, h⟩
  | f + 1, a, acc, ha, h => by
    have hn : ∀ x ∈ acc ++ (olineS l a).1.1.toList, RowOkO l x := fun x hx => by
      rcases List.mem_append.1 hx with hx | hx
      · exact h x hx
      · exact olineS_ok l a ha x hx
    have hl : (olineS l a).1.1.toList.length ≤ 1 := by cases (olineS l a).1.1 <;> simp
    unfold orowsGo
    split
    · exact ⟨by rw [List.length_append]; omega, hn⟩
    split
    · exact ⟨by rw [List.length_append]; omega, hn⟩
    · have ih := orowsGo_ok l f (olineS l a).2.1 (acc ++ (olineS l a).1.1.toList) (olineS_leO l a ha) hn
      refine ⟨?_, ih.2⟩
      have h3 := ih.1
      rw [List.length_append] at h3; omega
theorem openRows_ok (l : List UInt8) : (openRows l).1.length ≤ l.length + 2 ∧ ∀ x ∈ (openRows l).1, RowOkO l x := by
  have := orowsGo_ok l (l.length + 2) 0 [] (Nat.zero_le _) (by simp)
  unfold openRows
  simpa using this
/-! ### the walk -/
set_option maxRecDepth 100000 in
set_option maxHeartbeats 6400000 in
theorem oall_all (r : Nat) (c o l k : Int) (s : ByteArray) (fv0 : Value) (B n cap : Nat) (A : Option Addr) (l0 : List UInt8) (xs : List VRow) (w0 w : World) (h : OA w0 w r c o l k s fv0 [] false false false 0) (hs : s.size ≤ 1048576) (hx : IsRows rowCell 10 w0 B A n xs) (hall : ∀ x ∈ xs, IsRows tagCell 4 w0 B x.tA x.row.tags.length x.row.tags ∧ x.row.tags.length ≤ x.tc) (hok : ∀ x ∈ xs, RowOkO l0 x.row) (h0 : l0.length ≤ 1000000) (hB : B ≤ w0.heap.size) (hBr : B ≤ r) (hn : n ≤ 1048576) :
    Calls Tryz.prog 22 #[.pointer (some ⟨r, 0, none⟩), .slice A n cap] w fun e w' => RowP w0 w' r c o l k s (allO (xs.map VRow.row) ⟨[], false, false, false, 0⟩) e := by
  have hxn := hx.1
  have hrl := h.rl
  obtain ⟨R, hR⟩ : ∃ R, allO (xs.map VRow.row) ⟨[], false, false, false, 0⟩ = R := ⟨_, rfl⟩
  rw [hR]
  have H0 : Hid (allO ((xs.drop 0).map VRow.row) ⟨([] : List VFam).map VFam.fam, false, false, false, 0⟩ = R) := Lib.hid (by rw [List.drop_zero]; exact hR)
  have HX := Lib.hid hx
  have HALL := Lib.hid hall
  have HOK := Lib.hid hok
  have hO0 : Hid (OA w0 w r c o l k s fv0 [] false false false 0 ∧ OOk [] 0) := Lib.hid ⟨h, ⟨by simp, by omega, by simp⟩⟩
  clear hR h hx hall hok
  go_enter Tryz.func22, Tryz.ntmps22
  go_wp2_with fail
  go_loopw [10] (fun iv wr => ∃ (j : Nat) (fv : Value) (fs : List VFam) (t1 t2 t3 : Bool) (N : Nat), j ≤ n ∧ iv = .int .i64 j ∧ Hid (OA w0 wr r c o l k s fv fs t1 t2 t3 N ∧ OOk fs N) ∧ Hid (allO ((xs.drop j).map VRow.row) ⟨fs.map VFam.fam, t1, t2, t3, N⟩ = R)) (fun i _ => n - (intOf i).toNat)
  case atStart => exact ⟨0, fv0, [], false, false, false, 0, by omega, rfl, hO0, H0⟩
  case round =>
    obtain ⟨j, fv, fs, t1, t2, t3, N, hj, rfl, HO, HR⟩ := hrel
    clear H0 hO0
    by_cases hlt : j < n
    case neg =>
      have hdj : decide ((j : Int) < (n : Int)) = false := decide_eq_false (by omega)
      have hdjn : decide (j < n) = false := decide_eq_false hlt
      have hR := HR.out
      rw [List.drop_of_length_le (by omega), List.map_nil, allO] at hR
      subst hR
      obtain ⟨hO, hK⟩ := HO.out
      go_wp2_with fail
      go_ret
      exact ⟨rfl, fv, fs, rfl, hO, hK⟩
    case pos =>
      have hdj : decide ((j : Int) < (n : Int)) = true := decide_eq_true (by omega)
      have hdjn : decide (j < n) = true := decide_eq_true hlt
      have hj0 : (0 : Int) ≤ j := by omega
      have hj1 : (j : Int) < n := by omega
      obtain ⟨hO, hK⟩ := HO.out
      obtain ⟨b, off, rfl, hb, hcs⟩ := (HX.out.aw hO.aw hB (by simpa using hBr)).2 (by omega)
      obtain ⟨x, hx⟩ : ∃ x, xs[j]? = some x := ⟨_, List.getElem?_eq_getElem (by omega)⟩
      have q0 : wr.cell? ⟨b, off + j * 10, none⟩ = some (.int .i64 x.row.kind) := hcs j x 0 _ hx rfl
      have q1 : wr.cell? ⟨b, off + j * 10 + 1, none⟩ = some (.string x.row.name) := hcs j x 1 _ hx rfl
      have q2 : wr.cell? ⟨b, off + j * 10 + 2, none⟩ = some (.int .i64 x.row.off) := hcs j x 2 _ hx rfl
      have q3 : wr.cell? ⟨b, off + j * 10 + 3, none⟩ = some (.slice x.tA x.row.tags.length x.tc) := hcs j x 3 _ hx rfl
      have q4 : wr.cell? ⟨b, off + j * 10 + 4, none⟩ = some (.slice x.fA x.row.fields.length x.fc) := hcs j x 4 _ hx rfl
      have q5 : wr.cell? ⟨b, off + j * 10 + 5, none⟩ = some (.string x.row.text) := hcs j x 5 _ hx rfl
      have q6 : wr.cell? ⟨b, off + j * 10 + 6, none⟩ = some (.int .i64 x.row.pos) := hcs j x 6 _ hx rfl
      have q7 : wr.cell? ⟨b, off + j * 10 + 7, none⟩ = some (.bool x.row.timed) := hcs j x 7 _ hx rfl
      have q8 : wr.cell? ⟨b, off + j * 10 + 8, none⟩ = some (.string x.row.time) := hcs j x 8 _ hx rfl
      have q9 : wr.cell? ⟨b, off + j * 10 + 9, none⟩ = some (.int .i64 x.row.when_) := hcs j x 9 _ hx rfl
      have hxm := List.mem_of_getElem? hx
      obtain ⟨ht, hcp⟩ := HALL.out x hxm
      obtain ⟨o1, o2, o3, o4, o5, o6⟩ := HOK.out x hxm
      have hR := HR.out
      rw [drop_at hx, List.map_cons, allO] at hR
      have h1 := hO.alloc (.cells #[.int .i64 x.row.kind, .string x.row.name, .int .i64 x.row.off, .slice x.tA x.row.tags.length x.tc, .slice x.fA x.row.fields.length x.fc, .string x.row.text, .int .i64 x.row.pos, .bool x.row.timed, .string x.row.time, .int .i64 x.row.when_] 43)
      have hB1 : RowAt (wr.alloc (.cells #[.int .i64 x.row.kind, .string x.row.name, .int .i64 x.row.off, .slice x.tA x.row.tags.length x.tc, .slice x.fA x.row.fields.length x.fc, .string x.row.text, .int .i64 x.row.pos, .bool x.row.timed, .string x.row.time, .int .i64 x.row.when_] 43)) wr.heap.size x := Blk.new wr _ _
      have kS := osample_all r c o l k s fv fs t1 t2 t3 N B x w0 _ h1 hs hK (by omega) (by omega) (fun t ht => by have := o6 t ht; omega) ht hB hBr (by omega) hcp
      have kT := fun hk => otells_all r c o l k s fv fs t1 t2 t3 N x w0 _ h1 hs hK hk (by omega) (by omega)
      have HR2 := Lib.hid hR
      clear hcs hx HR hR hO h1 HO HALL HOK HX
      go_upto_region 5 with (fail)
      clear q0 q1 q2 q3 q4 q5 q6 q7 q8 q9
      obtain ⟨c0, c1, c2, c3, c4, c5, c6, c7, c8, c9⟩ := hB1.facts2
      generalize wr.alloc (.cells #[.int .i64 x.row.kind, .string x.row.name, .int .i64 x.row.off, .slice x.tA x.row.tags.length x.tc, .slice x.fA x.row.fields.length x.fc, .string x.row.text, .int .i64 x.row.pos, .bool x.row.timed, .string x.row.time, .int .i64 x.row.when_] 43) = W at *
      by_cases hk0 : x.row.kind = 0
      · have hkz : ((x.row.kind : Int) == 0) = true := by rw [beq_iff_eq]; omega
        have hR := HR2.out
        have er : rowO ⟨fs.map VFam.fam, t1, t2, t3, N⟩ x.row = sampleO ⟨fs.map VFam.fam, t1, t2, t3, N⟩ x.row := by unfold rowO; rw [if_pos hk0]
        rw [er] at hR
        clear HR2 kT hk0 er
        generalize sampleO ⟨fs.map VFam.fam, t1, t2, t3, N⟩ x.row = Q at *
        cases Q with
        | error e0 =>
          simp only at hR
          subst hR
          simp only [RowP] at kS
          go_wp2_with (go_at_call 43; (with_reducible refine kS.mono ?_); rintro e w4 ⟨rfl, hf4, hA4⟩)
          go_ret
          exact ⟨rfl, hf4, hA4⟩
        | ok q =>
          simp only at hR
          simp only [RowP] at kS
          have HR3 := Lib.hid hR
          clear hR
          go_wp2_with (go_at_call 43; (with_reducible refine kS.mono ?_); rintro e w4 ⟨rfl, fv4, fs4, hq4, hO4, hK4⟩)
          exact ⟨⟨j + 1, fv4, fs4, q.t1, q.t2, q.t3, q.pts, by omega, rfl, Lib.hid ⟨hO4, hK4⟩, Lib.hid (by rw [hq4]; exact HR3.out)⟩, by (simp only [intOf]; omega)⟩
      · have hkz : ((x.row.kind : Int) == 0) = false := by rw [beq_eq_false_iff_ne]; omega
        have hR := HR2.out
        have er : rowO ⟨fs.map VFam.fam, t1, t2, t3, N⟩ x.row = tellsO ⟨fs.map VFam.fam, t1, t2, t3, N⟩ x.row := by unfold rowO; rw [if_neg hk0]
        rw [er] at hR
        have kT2 := kT (by omega)
        clear HR2 kT kS hk0 er
        generalize tellsO ⟨fs.map VFam.fam, t1, t2, t3, N⟩ x.row = Q at *
        cases Q with
        | error e0 =>
          simp only at hR
          subst hR
          simp only [RowP] at kT2
          go_wp2_with (go_at_call 44; (with_reducible refine kT2.mono ?_); rintro e w4 ⟨rfl, hf4, hA4⟩)
          go_ret
          exact ⟨rfl, hf4, hA4⟩
        | ok q =>
          simp only at hR
          simp only [RowP] at kT2
          have HR3 := Lib.hid hR
          clear hR
          go_wp2_with (go_at_call 44; (with_reducible refine kT2.mono ?_); rintro e w4 ⟨rfl, fv4, fs4, hq4, hO4, hK4⟩)
          exact ⟨⟨j + 1, fv4, fs4, q.t1, q.t2, q.t3, q.pts, by omega, rfl, Lib.hid ⟨hO4, hK4⟩, Lib.hid (by rw [hq4]; exact HR3.out)⟩, by (simp only [intOf]; omega)⟩
end
end Go.Proofs.YtcapbikelgcmmaaGreatDoor
