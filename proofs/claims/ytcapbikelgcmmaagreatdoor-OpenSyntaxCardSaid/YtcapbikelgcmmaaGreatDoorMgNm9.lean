/- The walk of openread's named. The walk of openread's named, on (wip/gen/ordh.py prints it). The walk of openread's named: a row tells (wip/gen/ordi.py prints it). The walk of openread's named: too many families (wip/gen/ordj.py prints it). The walk of openread's named: a family begins (wip/gen/ordk.py prints it). openread's named, whole. -/
import Derived.Test.YtcapbikelgcmmaaGreatDoorMgFa9
namespace Go.Proofs.YtcapbikelgcmmaaGreatDoor
set_option linter.unusedVariables false
set_option linter.unusedSimpArgs false
open Go.RowKit
section
structure OOk (fs : List VFam) (N : Nat) : Prop where
  len : fs.length ≤ 30
  num : N ≤ 120
  fam : ∀ f ∈ fs, f.name.size ≤ 60 ∧ f.kind ≤ 4 ∧ f.pts.length ≤ N ∧ ∀ x ∈ f.pts, PntOk x.pt
/-- What a row's reading does. -/
def RowP (w0 w' : World) (r : Nat) (c o l k : Int) (s : ByteArray) : Except OErr ORd → Ending → Prop
  | .error x, en => en = .returned (.bool false) ∧ (∃ fv t1 t2 t3 N, Obf w' r x.1 x.2 s fv t1 t2 t3 N) ∧ Aw [r] w0 w'
  | .ok q, en => en = .returned (.bool true) ∧ ∃ fv fs, fs.map VFam.fam = q.fams ∧ OA w0 w' r c o l k s fv fs q.t1 q.t2 q.t3 q.pts ∧ OOk fs q.pts
/-- Blocks that are neither the reader's nor families' stay. -/
def Keep (r : Nat) (w w' : World) : Prop := ∀ b t cs, Blk w b t cs → b ≠ r → 68 ≠ t → Blk w' b t cs
/-- A row's box. -/
def RowAt (w : World) (b : Nat) (x : VRow) : Prop := Blk w b 43 #[.int .i64 x.row.kind, .string x.row.name, .int .i64 x.row.off, .slice x.tA x.row.tags.length x.tc, .slice x.fA x.row.fields.length x.fc, .string x.row.text, .int .i64 x.row.pos, .bool x.row.timed, .string x.row.time, .int .i64 x.row.when_]
theorem RowAt.facts {w : World} {b : Nat} {x : VRow} (h : RowAt w b x) : w.cell? ⟨b, 0, none⟩ = some (.int .i64 x.row.kind) ∧ w.cell? ⟨b, 1, none⟩ = some (.string x.row.name) ∧ w.cell? ⟨b, 2, none⟩ = some (.int .i64 x.row.off) :=
  ⟨(Blk.cell h 0).trans rfl, (Blk.cell h 1).trans rfl, (Blk.cell h 2).trans rfl⟩
theorem RowAt.aw {S : List Nat} {w w' : World} {b : Nat} {x : VRow} (h : RowAt w b x) (a : Aw S w w') (hb : b ∉ S) : RowAt w' b x := Blk.aw h a hb
/-- stands, whichever way. -/
theorem stands_any (r : Nat) (c o l k : Int) (s : ByteArray) (fv : Value) (fs : List VFam) (t1 t2 t3 : Bool) (N : Nat) (w0 w : World) (h : OA w0 w r c o l k s fv fs t1 t2 t3 N) (h30 : fs.length ≤ 31) :
    ∃ p : Option Addr, (fs = [] → p = none) ∧ (∀ i, fs.length = i + 1 → ∃ g fc, p = some ⟨g, i * 5, none⟩ ∧ fv = .slice (some ⟨g, 0, none⟩) (i + 1) fc ∧ w0.heap.size ≤ g) ∧ Calls Tryz.prog 75 #[.pointer (some ⟨r, 0, none⟩)] w fun e w' => e = .returned (.pointer p) ∧ Aw [] w w' := by
  cases hfs : fs.length with
  | zero =>
    have e : fs = [] := List.length_eq_zero_iff.1 hfs
    subst e
    exact ⟨none, fun _ => rfl, fun i hi => by omega, stands_nil r c o l k s fv t1 t2 t3 N w0 w h⟩
  | succ i =>
    obtain ⟨g, fc, e1, hg, hC⟩ := stands_last r c o l k s fv fs t1 t2 t3 N i w0 w h hfs (by omega)
    exact ⟨_, fun e => by rw [e] at hfs; simp at hfs, fun j hj => by
      have : j = i := by omega
      subst this
      exact ⟨g, fc, rfl, e1, hg⟩, hC⟩
set_option maxRecDepth 100000 in
set_option maxHeartbeats 6400000 in
theorem named_long (r : Nat) (c o l k : Int) (s : ByteArray) (fv : Value) (fs : List VFam) (t1 t2 t3 : Bool) (N : Nat) (x : VRow) (w0 w : World) (h : OA w0 w r c o l k s fv fs t1 t2 t3 N) (hs : s.size ≤ 1048576) (h30 : fs.length ≤ 31) (hx : 60 < x.row.name.size) :
    Calls Tryz.prog 81 #[.pointer (some ⟨r, 0, none⟩), .agg #[.int .i64 x.row.kind, .string x.row.name, .int .i64 x.row.off, .slice x.tA x.row.tags.length x.tc, .slice x.fA x.row.fields.length x.fc, .string x.row.text, .int .i64 x.row.pos, .bool x.row.timed, .string x.row.time, .int .i64 x.row.when_]] w fun e w' => e = .returned (.bool false) ∧ (∃ fv t1 t2 t3 N, Obf w' r 14 x.row.off s fv t1 t2 t3 N) ∧ Aw [r] w0 w' := by
  have h1 := h.alloc (.cells #[.int .i64 x.row.kind, .string x.row.name, .int .i64 x.row.off, .slice x.tA x.row.tags.length x.tc, .slice x.fA x.row.fields.length x.fc, .string x.row.text, .int .i64 x.row.pos, .bool x.row.timed, .string x.row.time, .int .i64 x.row.when_] 43)
  have hR : RowAt _ w.heap.size x := Blk.new w 43 #[.int .i64 x.row.kind, .string x.row.name, .int .i64 x.row.off, .slice x.tA x.row.tags.length x.tc, .slice x.fA x.row.fields.length x.fc, .string x.row.text, .int .i64 x.row.pos, .bool x.row.timed, .string x.row.time, .int .i64 x.row.when_]
  obtain ⟨p, _, _, kS⟩ := stands_any r c o l k s fv fs t1 t2 t3 N w0 _ h1 h30
  have d1 : decide ((60 : Int) < (x.row.name.size : Int)) = true := decide_eq_true (by omega)
  have d1n : decide (60 < x.row.name.size) = true := decide_eq_true hx
  have kF : ∀ W, Ob W r c o l k s fv t1 t2 t3 N → Calls Tryz.prog 76 #[.pointer (some ⟨r, 0, none⟩), .int .i64 14, .int .i64 (x.row.off : Int)] W fun e w' => e = .returned (.bool false) ∧ Obf w' r 14 x.row.off s fv t1 t2 t3 N ∧ Aw [r] W w' := fun W h => ofails_any r c o l k s fv t1 t2 t3 N 14 x.row.off W h hs
  clear h hx
  go_enter Tryz.func81, Tryz.ntmps81
  go_wp2_with (first
    | (go_at_call 75; (with_reducible refine kS.mono ?_); rintro e w2 ⟨rfl, hA2⟩; have h2 := h1.call hA2; have hR2 := hR.aw hA2 (by simp); obtain ⟨e0, e1, e2⟩ := hR2.facts)
    | (go_at_call 76; (with_reducible refine (kF _ h2.rd).mono ?_); rintro e w3 ⟨rfl, h3, hA3⟩))
  go_ret
  exact ⟨rfl, ⟨_, _, _, _, _, h3⟩, h2.aw.trans hA3⟩
/-- The name of a family that stands. -/
theorem FamsAt.name_ {w : World} {base i g fc : Nat} {n : Nat} {fs : List VFam} {X : VFam} (h : FamsAt w base (.slice (some ⟨g, 0, none⟩) n fc) fs) (hx : fs[i]? = some X) : w.cell? ⟨g, i * 5, none⟩ = some (.string X.name) := by
  have hi : i < fs.length := (List.getElem?_eq_some_iff.1 hx).1
  obtain ⟨A, fc', hv⟩ := h.form
  injection hv with hA hn hc
  subst hA hn
  have hrow := h.rows
  obtain ⟨b, off, e, hb, hc⟩ := hrow.2 (by omega)
  injection e with e
  injection e with e5 e6
  subst e5 e6
  have := hc i X 0 (.string X.name) hx rfl
  simpa using this
set_option maxRecDepth 100000 in
set_option maxHeartbeats 6400000 in
theorem named_other (r : Nat) (c o l k : Int) (s : ByteArray) (fv : Value) (fs : List VFam) (t1 t2 t3 : Bool) (N i : Nat) (x : VRow) (X : VFam) (w0 w : World) (h : OA w0 w r c o l k s fv fs t1 t2 t3 N) (hs : s.size ≤ 1048576) (h30 : fs.length ≤ 31) (hx : x.row.name.size ≤ 60)
    (hi : fs.length = i + 1) (hX : fs[i]? = some X) (hkn : knownO (fs.map VFam.fam) x.row.name.data.toList = true) (hne : (X.name.data.toList == x.row.name.data.toList) = false) :
    Calls Tryz.prog 81 #[.pointer (some ⟨r, 0, none⟩), .agg #[.int .i64 x.row.kind, .string x.row.name, .int .i64 x.row.off, .slice x.tA x.row.tags.length x.tc, .slice x.fA x.row.fields.length x.fc, .string x.row.text, .int .i64 x.row.pos, .bool x.row.timed, .string x.row.time, .int .i64 x.row.when_]] w fun e w' => e = .returned (.bool false) ∧ (∃ fv t1 t2 t3 N, Obf w' r 13 x.row.off s fv t1 t2 t3 N) ∧ Aw [r] w0 w' := by
  have h1 := h.alloc (.cells #[.int .i64 x.row.kind, .string x.row.name, .int .i64 x.row.off, .slice x.tA x.row.tags.length x.tc, .slice x.fA x.row.fields.length x.fc, .string x.row.text, .int .i64 x.row.pos, .bool x.row.timed, .string x.row.time, .int .i64 x.row.when_] 43)
  have hR : RowAt _ w.heap.size x := Blk.new w 43 #[.int .i64 x.row.kind, .string x.row.name, .int .i64 x.row.off, .slice x.tA x.row.tags.length x.tc, .slice x.fA x.row.fields.length x.fc, .string x.row.text, .int .i64 x.row.pos, .bool x.row.timed, .string x.row.time, .int .i64 x.row.when_]
  obtain ⟨p, _, hp, kS⟩ := stands_any r c o l k s fv fs t1 t2 t3 N w0 _ h1 h30
  obtain ⟨g, fc, rfl, rfl, hg⟩ := hp i hi
  have d1 : decide ((60 : Int) < (x.row.name.size : Int)) = false := decide_eq_false (by omega)
  have d1n : decide (60 < x.row.name.size) = false := decide_eq_false (by omega)
  have hn1 : (X.name.toList == x.row.name.toList) = false := by rw [ByteArray.toList_eq, ByteArray.toList_eq]; exact hne
  have kF : ∀ W, Ob W r c o l k s (.slice (some ⟨g, 0, none⟩) (i + 1) fc) t1 t2 t3 N → Calls Tryz.prog 76 #[.pointer (some ⟨r, 0, none⟩), .int .i64 13, .int .i64 (x.row.off : Int)] W fun e w' => e = .returned (.bool false) ∧ Obf w' r 13 x.row.off s (.slice (some ⟨g, 0, none⟩) (i + 1) fc) t1 t2 t3 N ∧ Aw [r] W w' := fun W h => ofails_any r c o l k s _ t1 t2 t3 N 13 x.row.off W h hs
  clear h hp
  go_enter Tryz.func81, Tryz.ntmps81
  go_upto_region 4 with (
    (go_at_call 75; (with_reducible refine kS.mono ?_); rintro e w2 ⟨rfl, hA2⟩; have h2 := h1.call hA2; have hR2 := hR.aw hA2 (by simp); obtain ⟨e0, e1, e2⟩ := hR2.facts))
  obtain ⟨⟨_, _, _, _, _, _, _, r7, r8, r9, _⟩, _⟩ := h2.rd.facts
  obtain ⟨gq, fq, e1q, _, x4, _⟩ := h2.fams.at_ hX
  injection e1q with e1q e2q e3q
  injection e1q with e1q
  injection e1q with e1q e4q
  clear e2q e4q
  subst e1q e3q
  have x0 := FamsAt.name_ h2.fams hX
  have hS0 : (w2.drew.cell? ⟨w.heap.size, 0, none⟩ = some (.int .i64 x.row.kind) ∧ w2.drew.cell? ⟨w.heap.size, 1, none⟩ = some (.string x.row.name) ∧ w2.drew.cell? ⟨g, i * 5, none⟩ = some (.string X.name)) ∧ Aw [] w2.drew w2.drew := ⟨⟨e0, e1, x0⟩, Aw.refl [] _⟩
  have HX := Lib.hid hX
  have kK := fun W hA => known_any r c o l k s (.slice (some ⟨g, 0, none⟩) (i + 1) fc) fs t1 t2 t3 N x.row.name w0 W (h2.drew.call hA) (by omega)
  rw [hkn] at kK
  have HO : Hid (∀ W, Aw [] w2.drew W → OA w0 W r c o l k s (.slice (some ⟨g, 0, none⟩) (i + 1) fc) fs t1 t2 t3 N) := Lib.hid (fun W hA => h2.drew.call hA)
  have HRB : Hid (∀ W, Aw [] w2.drew W → RowAt W w.heap.size x) := Lib.hid (fun W hA => (hR2.aw (Aw.refl [] w2).drew (by simp)).aw hA (by simp))
  clear kS h1 hR h2 hR2 hA2 e0 e1 e2 x4 x0 r7 r8 r9 hX hkn hne
  refine wp_region_held_drew (S := (fun w' => (w'.cell? ⟨w.heap.size, 0, none⟩ = some (.int .i64 x.row.kind) ∧ w'.cell? ⟨w.heap.size, 1, none⟩ = some (.string x.row.name) ∧ w'.cell? ⟨g, i * 5, none⟩ = some (.string X.name)) ∧ Aw [] w2.drew w')) (by kernel_rfl) ?_ (fun hHeld0 => ?_)
  · (try dsimp only); (first | exact hS0 | assumption)
  refine wpAnyH_take (i := 0) (oi := _) (v := ?_) rfl (by kernel_rfl) (by kernel_rfl) (by kernel_rfl) (fun _ _ _ h => h) (Or.inl ⟨by rfl, ?_⟩) (by assumption) ?_
  rotate_left
  focus ((intro w hSw; (try dsimp only at hSw); go_simp; try with_reducible rfl); done)
  (try simp only [Act.put, List.setIfInBounds_toArray, List.set_cons_zero, List.set_cons_succ, List.getElem_toArray, List.getElem_cons_zero, List.getElem_cons_succ])
  refine wpAnyH_take (i := 1) (oi := _) (v := ?_) rfl (by kernel_rfl) (by kernel_rfl) (by kernel_rfl) (fun _ _ _ h => h) (Or.inl ⟨by rfl, ?_⟩) (by assumption) ?_
  rotate_left
  focus ((intro w hSw; (try dsimp only at hSw); go_simp; try with_reducible rfl); done)
  (try simp only [Act.put, List.setIfInBounds_toArray, List.set_cons_zero, List.set_cons_succ, List.getElem_toArray, List.getElem_cons_zero, List.getElem_cons_succ])
  refine wpAnyH_take (i := 2) (oi := _) (v := ?_) rfl (by kernel_rfl) (by kernel_rfl) (by kernel_rfl) (fun _ _ _ h => h) (Or.inl ⟨by rfl, ?_⟩) (by assumption) ?_
  rotate_left
  focus ((intro w hSw; (try dsimp only at hSw); go_simp; try with_reducible rfl); done)
  (try simp only [Act.put, List.setIfInBounds_toArray, List.set_cons_zero, List.set_cons_succ, List.getElem_toArray, List.getElem_cons_zero, List.getElem_cons_succ])
  refine wpAnyH_ready (rs := [3]) (by kernel_rfl) (by simp) ?_
  refine AllReadyH.cons (o := _) rfl (fun K hK => ?_) AllReadyH.nil
  go_simp
  go_wp2_with (go_at_call 121; (with_reducible refine (kK _ (by first | assumption | exact Aw.refl [] _)).mono ?_); rintro e w3 ⟨rfl, hA3⟩; obtain ⟨_, hcur⟩ := ‹(_ ∧ _) ∧ Aw [] w2.drew _›; have hA4 := hcur.trans hA3; have hS3 := And.intro (And.intro (HRB.out _ hA4).facts.1 (And.intro (HRB.out _ hA4).facts.2.1 (FamsAt.name_ (HO.out _ hA4).fams HX.out))) hA4)
  refine hK.out _ _ ?_ (fun hHeld1 => ?_)
  · (try dsimp only); (first | exact hS0 | assumption)
  clear hK K
  (try simp only [Act.put, List.setIfInBounds_toArray, List.set_cons_zero, List.set_cons_succ, List.getElem_toArray, List.getElem_cons_zero, List.getElem_cons_succ])
  refine wpAnyH_take (i := 4) (oi := _) (v := ?_) rfl (by kernel_rfl) (by kernel_rfl) (by kernel_rfl) (fun _ _ _ h => h) (Or.inl ⟨by rfl, ?_⟩) (by assumption) ?_
  rotate_left
  focus ((intro w hSw; (try dsimp only at hSw); go_simp; try with_reducible rfl); done)
  (try simp only [Act.put, List.setIfInBounds_toArray, List.set_cons_zero, List.set_cons_succ, List.getElem_toArray, List.getElem_cons_zero, List.getElem_cons_succ])
  refine wpAnyH_take (i := 5) (oi := _) (v := ?_) rfl (by kernel_rfl) (by kernel_rfl) (by kernel_rfl) (fun _ _ _ h => h) (Or.inl ⟨by rfl, ?_⟩) (by assumption) ?_
  rotate_left
  focus ((intro w hSw; (try dsimp only at hSw); go_simp; try with_reducible rfl); done)
  (try simp only [Act.put, List.setIfInBounds_toArray, List.set_cons_zero, List.set_cons_succ, List.getElem_toArray, List.getElem_cons_zero, List.getElem_cons_succ])
  refine wpAnyH_take (i := 10) (oi := _) (v := ?_) rfl (by kernel_rfl) (by kernel_rfl) (by kernel_rfl) (fun _ _ _ h => h) (Or.inl ⟨by rfl, ?_⟩) (by assumption) ?_
  rotate_left
  focus ((intro w hSw; (try dsimp only at hSw); go_simp; try with_reducible rfl); done)
  (try simp only [Act.put, List.setIfInBounds_toArray, List.set_cons_zero, List.set_cons_succ, List.getElem_toArray, List.getElem_cons_zero, List.getElem_cons_succ])
  refine wpAnyH_take (i := 11) (oi := _) (v := ?_) rfl (by kernel_rfl) (by kernel_rfl) (by kernel_rfl) (fun _ _ _ h => h) (Or.inl ⟨by rfl, ?_⟩) (by assumption) ?_
  rotate_left
  focus ((intro w hSw; (try dsimp only at hSw); go_simp; try with_reducible rfl); done)
  (try simp only [Act.put, List.setIfInBounds_toArray, List.set_cons_zero, List.set_cons_succ, List.getElem_toArray, List.getElem_cons_zero, List.getElem_cons_succ])
  refine wpAnyH_ready (rs := [6]) (by kernel_rfl) (by simp) ?_
  refine AllReadyH.cons (o := _) rfl (fun K hK => ?_) AllReadyH.nil
  go_simp
  refine hK.out _ _ ?_ (fun hHeld2 => ?_)
  · (try dsimp only); (first | exact hS0 | assumption)
  clear hK K
  (try simp only [Act.put, List.setIfInBounds_toArray, List.set_cons_zero, List.set_cons_succ, List.getElem_toArray, List.getElem_cons_zero, List.getElem_cons_succ])
  refine wpAnyH_take (i := 7) (oi := _) (v := ?_) rfl (by kernel_rfl) (by kernel_rfl) (by kernel_rfl) (fun _ _ _ h => h) (Or.inl ⟨by rfl, ?_⟩) (by assumption) ?_
  rotate_left
  focus ((intro w hSw; (try dsimp only at hSw); go_simp; try with_reducible rfl); done)
  (try simp only [Act.put, List.setIfInBounds_toArray, List.set_cons_zero, List.set_cons_succ, List.getElem_toArray, List.getElem_cons_zero, List.getElem_cons_succ])
  refine wpAnyH_take (i := 8) (oi := _) (v := ?_) rfl (by kernel_rfl) (by kernel_rfl) (by kernel_rfl) (fun _ _ _ h => h) (Or.inl ⟨by rfl, ?_⟩) (by assumption) ?_
  rotate_left
  focus ((intro w hSw; (try dsimp only at hSw); go_simp; try with_reducible rfl); done)
  (try simp only [Act.put, List.setIfInBounds_toArray, List.set_cons_zero, List.set_cons_succ, List.getElem_toArray, List.getElem_cons_zero, List.getElem_cons_succ])
  refine wpAnyH_take (i := 9) (oi := _) (v := ?_) rfl (by kernel_rfl) (by kernel_rfl) (by kernel_rfl) (fun _ _ _ h => h) (Or.inl ⟨by rfl, ?_⟩) (by assumption) ?_
  rotate_left
  focus ((intro w hSw; (try dsimp only at hSw); go_simp; try with_reducible rfl); done)
  (try simp only [Act.put, List.setIfInBounds_toArray, List.set_cons_zero, List.set_cons_succ, List.getElem_toArray, List.getElem_cons_zero, List.getElem_cons_succ])
  refine wpAnyH_take (i := 12) (oi := _) (v := ?_) rfl (by kernel_rfl) (by kernel_rfl) (by kernel_rfl) (fun _ _ _ h => h) (Or.inl ⟨by rfl, ?_⟩) (by assumption) ?_
  rotate_left
  focus ((intro w hSw; (try dsimp only at hSw); go_simp; try with_reducible rfl); done)
  (try simp only [Act.put, List.setIfInBounds_toArray, List.set_cons_zero, List.set_cons_succ, List.getElem_toArray, List.getElem_cons_zero, List.getElem_cons_succ])
  refine wpAnyH_take (i := 13) (oi := _) (v := ?_) rfl (by kernel_rfl) (by kernel_rfl) (by kernel_rfl) (fun _ _ _ h => h) (Or.inl ⟨by rfl, ?_⟩) (by assumption) ?_
  rotate_left
  focus ((intro w hSw; (try dsimp only at hSw); go_simp; try with_reducible rfl); done)
  (try simp only [Act.put, List.setIfInBounds_toArray, List.set_cons_zero, List.set_cons_succ, List.getElem_toArray, List.getElem_cons_zero, List.getElem_cons_succ])
  refine wpAnyH_take (i := 14) (oi := _) (v := undef) rfl (by kernel_rfl) (by kernel_rfl) (by kernel_rfl) (fun _ _ _ h => h) (Or.inr ⟨by rfl, rfl⟩) (by assumption) ?_
  (try simp only [Act.put, List.setIfInBounds_toArray, List.set_cons_zero, List.set_cons_succ, List.getElem_toArray, List.getElem_cons_zero, List.getElem_cons_succ])
  refine wpAnyH_take (i := 15) (oi := _) (v := undef) rfl (by kernel_rfl) (by kernel_rfl) (by kernel_rfl) (fun _ _ _ h => h) (Or.inr ⟨by rfl, rfl⟩) (by assumption) ?_
  (try simp only [Act.put, List.setIfInBounds_toArray, List.set_cons_zero, List.set_cons_succ, List.getElem_toArray, List.getElem_cons_zero, List.getElem_cons_succ])
  refine wpAnyH_take (i := 16) (oi := _) (v := undef) rfl (by kernel_rfl) (by kernel_rfl) (by kernel_rfl) (fun _ _ _ h => h) (Or.inr ⟨by rfl, rfl⟩) (by assumption) ?_
  (try simp only [Act.put, List.setIfInBounds_toArray, List.set_cons_zero, List.set_cons_succ, List.getElem_toArray, List.getElem_cons_zero, List.getElem_cons_succ])
  refine wpAnyH_take (i := 17) (oi := _) (v := undef) rfl (by kernel_rfl) (by kernel_rfl) (by kernel_rfl) (fun _ _ _ h => h) (Or.inr ⟨by rfl, rfl⟩) (by assumption) ?_
  (try simp only [Act.put, List.setIfInBounds_toArray, List.set_cons_zero, List.set_cons_succ, List.getElem_toArray, List.getElem_cons_zero, List.getElem_cons_succ])
  refine wpAnyH_take (i := 18) (oi := _) (v := undef) rfl (by kernel_rfl) (by kernel_rfl) (by kernel_rfl) (fun _ _ _ h => h) (Or.inr ⟨by rfl, rfl⟩) (by assumption) ?_
  (try simp only [Act.put, List.setIfInBounds_toArray, List.set_cons_zero, List.set_cons_succ, List.getElem_toArray, List.getElem_cons_zero, List.getElem_cons_succ])
  refine wpAnyH_take (i := 19) (oi := _) (v := undef) rfl (by kernel_rfl) (by kernel_rfl) (by kernel_rfl) (fun _ _ _ h => h) (Or.inr ⟨by rfl, rfl⟩) (by assumption) ?_
  (try simp only [Act.put, List.setIfInBounds_toArray, List.set_cons_zero, List.set_cons_succ, List.getElem_toArray, List.getElem_cons_zero, List.getElem_cons_succ])
  refine wpAnyH_take (i := 20) (oi := _) (v := ?_) rfl (by kernel_rfl) (by kernel_rfl) (by kernel_rfl) (fun _ _ _ h => h) (Or.inl ⟨by rfl, ?_⟩) (by assumption) ?_
  rotate_left
  focus ((intro w hSw; (try dsimp only at hSw); go_simp; try with_reducible rfl); done)
  (try simp only [Act.put, List.setIfInBounds_toArray, List.set_cons_zero, List.set_cons_succ, List.getElem_toArray, List.getElem_cons_zero, List.getElem_cons_succ])
  refine wpAnyH_take (i := 21) (oi := _) (v := ?_) rfl (by kernel_rfl) (by kernel_rfl) (by kernel_rfl) (fun _ _ _ h => h) (Or.inl ⟨by rfl, ?_⟩) (by assumption) ?_
  rotate_left
  focus ((intro w hSw; (try dsimp only at hSw); go_simp; try with_reducible rfl); done)
  (try simp only [Act.put, List.setIfInBounds_toArray, List.set_cons_zero, List.set_cons_succ, List.getElem_toArray, List.getElem_cons_zero, List.getElem_cons_succ])
  refine wpAnyH_take (i := 22) (oi := _) (v := undef) rfl (by kernel_rfl) (by kernel_rfl) (by kernel_rfl) (fun _ _ _ h => h) (Or.inr ⟨by rfl, rfl⟩) (by assumption) ?_
  (try simp only [Act.put, List.setIfInBounds_toArray, List.set_cons_zero, List.set_cons_succ, List.getElem_toArray, List.getElem_cons_zero, List.getElem_cons_succ])
  refine wpAnyH_take (i := 23) (oi := _) (v := undef) rfl (by kernel_rfl) (by kernel_rfl) (by kernel_rfl) (fun _ _ _ h => h) (Or.inr ⟨by rfl, rfl⟩) (by assumption) ?_
  (try simp only [Act.put, List.setIfInBounds_toArray, List.set_cons_zero, List.set_cons_succ, List.getElem_toArray, List.getElem_cons_zero, List.getElem_cons_succ])
  refine wpAnyH_take (i := 24) (oi := _) (v := undef) rfl (by kernel_rfl) (by kernel_rfl) (by kernel_rfl) (fun _ _ _ h => h) (Or.inr ⟨by rfl, rfl⟩) (by assumption) ?_
  (try simp only [Act.put, List.setIfInBounds_toArray, List.set_cons_zero, List.set_cons_succ, List.getElem_toArray, List.getElem_cons_zero, List.getElem_cons_succ])
  refine wpAnyH_take (i := 25) (oi := _) (v := undef) rfl (by kernel_rfl) (by kernel_rfl) (by kernel_rfl) (fun _ _ _ h => h) (Or.inr ⟨by rfl, rfl⟩) (by assumption) ?_
  (try simp only [Act.put, List.setIfInBounds_toArray, List.set_cons_zero, List.set_cons_succ, List.getElem_toArray, List.getElem_cons_zero, List.getElem_cons_succ])
  refine wpAnyH_take (i := 26) (oi := _) (v := undef) rfl (by kernel_rfl) (by kernel_rfl) (by kernel_rfl) (fun _ _ _ h => h) (Or.inr ⟨by rfl, rfl⟩) (by assumption) ?_
  (try simp only [Act.put, List.setIfInBounds_toArray, List.set_cons_zero, List.set_cons_succ, List.getElem_toArray, List.getElem_cons_zero, List.getElem_cons_succ])
  refine wpAnyH_take (i := 27) (oi := _) (v := undef) rfl (by kernel_rfl) (by kernel_rfl) (by kernel_rfl) (fun _ _ _ h => h) (Or.inr ⟨by rfl, rfl⟩) (by assumption) ?_
  (try simp only [Act.put, List.setIfInBounds_toArray, List.set_cons_zero, List.set_cons_succ, List.getElem_toArray, List.getElem_cons_zero, List.getElem_cons_succ])
  refine wpAnyH_take (i := 28) (oi := _) (v := undef) rfl (by kernel_rfl) (by kernel_rfl) (by kernel_rfl) (fun _ _ _ h => h) (Or.inr ⟨by rfl, rfl⟩) (by assumption) ?_
  (try simp only [Act.put, List.setIfInBounds_toArray, List.set_cons_zero, List.set_cons_succ, List.getElem_toArray, List.getElem_cons_zero, List.getElem_cons_succ])
  refine wpAnyH_take (i := 29) (oi := _) (v := ?_) rfl (by kernel_rfl) (by kernel_rfl) (by kernel_rfl) (fun _ _ _ h => h) (Or.inl ⟨by rfl, ?_⟩) (by assumption) ?_
  rotate_left
  focus ((intro w hSw; (try dsimp only at hSw); go_simp; try with_reducible rfl); done)
  (try simp only [Act.put, List.setIfInBounds_toArray, List.set_cons_zero, List.set_cons_succ, List.getElem_toArray, List.getElem_cons_zero, List.getElem_cons_succ])
  refine wpAnyH_take (i := 30) (oi := _) (v := ?_) rfl (by kernel_rfl) (by kernel_rfl) (by kernel_rfl) (fun _ _ _ h => h) (Or.inl ⟨by rfl, ?_⟩) (by assumption) ?_
  rotate_left
  focus ((intro w hSw; (try dsimp only at hSw); go_simp; try with_reducible rfl); done)
  (try simp only [Act.put, List.setIfInBounds_toArray, List.set_cons_zero, List.set_cons_succ, List.getElem_toArray, List.getElem_cons_zero, List.getElem_cons_succ])
  refine wpAnyH_take (i := 31) (oi := _) (v := ?_) rfl (by kernel_rfl) (by kernel_rfl) (by kernel_rfl) (fun _ _ _ h => h) (Or.inl ⟨by rfl, ?_⟩) (by assumption) ?_
  rotate_left
  focus ((intro w hSw; (try dsimp only at hSw); go_simp; try with_reducible rfl); done)
  (try simp only [Act.put, List.setIfInBounds_toArray, List.set_cons_zero, List.set_cons_succ, List.getElem_toArray, List.getElem_cons_zero, List.getElem_cons_succ])
  refine wpAnyH_done (by kernel_rfl) ?_ _
  have hAe := hHeld2.2
  obtain ⟨e0, e1, e2⟩ := (HRB.out _ hAe).facts
  have hRd := (HO.out _ hAe).rd
  go_wp2_with (go_at_call 76; (with_reducible refine (kF _ hRd).mono ?_); rintro e w4 ⟨rfl, h4, hA5⟩)
  go_ret
  exact ⟨rfl, ⟨_, _, _, _, _, h4⟩, (HO.out _ hAe).aw.trans hA5⟩
/-- The points of a family that stands. -/
theorem FamsAt.pts_ {w : World} {base i g fc : Nat} {n : Nat} {fs : List VFam} {X : VFam} (h : FamsAt w base (.slice (some ⟨g, 0, none⟩) n fc) fs) (hx : fs[i]? = some X) : w.cell? ⟨g, i * 5 + 4, none⟩ = some (.slice X.A X.pts.length X.c) := by
  obtain ⟨gq, fq, e1q, _, x4, _⟩ := h.at_ hx
  injection e1q with e1q e2q e3q
  injection e1q with e1q
  injection e1q with e1q e4q
  subst e1q
  exact x4
set_option maxRecDepth 100000 in
set_option maxHeartbeats 6400000 in
theorem named_pts (r : Nat) (c o l k : Int) (s : ByteArray) (fv : Value) (fs : List VFam) (t1 t2 t3 : Bool) (N i : Nat) (x : VRow) (X : VFam) (w0 w : World) (h : OA w0 w r c o l k s fv fs t1 t2 t3 N) (hs : s.size ≤ 1048576) (h30 : fs.length ≤ 31) (hx : x.row.name.size ≤ 60)
    (hi : fs.length = i + 1) (hX : fs[i]? = some X) (hkn : knownO (fs.map VFam.fam) x.row.name.data.toList = true) (hne : (X.name.data.toList == x.row.name.data.toList) = true) (hpt : 0 < X.pts.length) (hpl : X.pts.length ≤ 120) :
    Calls Tryz.prog 81 #[.pointer (some ⟨r, 0, none⟩), .agg #[.int .i64 x.row.kind, .string x.row.name, .int .i64 x.row.off, .slice x.tA x.row.tags.length x.tc, .slice x.fA x.row.fields.length x.fc, .string x.row.text, .int .i64 x.row.pos, .bool x.row.timed, .string x.row.time, .int .i64 x.row.when_]] w fun e w' => e = .returned (.bool false) ∧ (∃ fv t1 t2 t3 N, Obf w' r 13 x.row.off s fv t1 t2 t3 N) ∧ Aw [r] w0 w' := by
  have h1 := h.alloc (.cells #[.int .i64 x.row.kind, .string x.row.name, .int .i64 x.row.off, .slice x.tA x.row.tags.length x.tc, .slice x.fA x.row.fields.length x.fc, .string x.row.text, .int .i64 x.row.pos, .bool x.row.timed, .string x.row.time, .int .i64 x.row.when_] 43)
  have hR : RowAt _ w.heap.size x := Blk.new w 43 #[.int .i64 x.row.kind, .string x.row.name, .int .i64 x.row.off, .slice x.tA x.row.tags.length x.tc, .slice x.fA x.row.fields.length x.fc, .string x.row.text, .int .i64 x.row.pos, .bool x.row.timed, .string x.row.time, .int .i64 x.row.when_]
  obtain ⟨p, _, hp, kS⟩ := stands_any r c o l k s fv fs t1 t2 t3 N w0 _ h1 h30
  obtain ⟨g, fc, rfl, rfl, hg⟩ := hp i hi
  have d1 : decide ((60 : Int) < (x.row.name.size : Int)) = false := decide_eq_false (by omega)
  have d1n : decide (60 < x.row.name.size) = false := decide_eq_false (by omega)
  have p1 : decide ((0 : Int) < (X.pts.length : Int)) = true := decide_eq_true (by omega)
  have p1n : decide (0 < X.pts.length) = true := decide_eq_true hpt
  have hn1 : (X.name.toList == x.row.name.toList) = true := by rw [ByteArray.toList_eq, ByteArray.toList_eq]; exact hne
  have kF : ∀ W, Ob W r c o l k s (.slice (some ⟨g, 0, none⟩) (i + 1) fc) t1 t2 t3 N → Calls Tryz.prog 76 #[.pointer (some ⟨r, 0, none⟩), .int .i64 13, .int .i64 (x.row.off : Int)] W fun e w' => e = .returned (.bool false) ∧ Obf w' r 13 x.row.off s (.slice (some ⟨g, 0, none⟩) (i + 1) fc) t1 t2 t3 N ∧ Aw [r] W w' := fun W h => ofails_any r c o l k s _ t1 t2 t3 N 13 x.row.off W h hs
  clear h hp
  go_enter Tryz.func81, Tryz.ntmps81
  go_upto_region 4 with (
    (go_at_call 75; (with_reducible refine kS.mono ?_); rintro e w2 ⟨rfl, hA2⟩; have h2 := h1.call hA2; have hR2 := hR.aw hA2 (by simp); obtain ⟨e0, e1, e2⟩ := hR2.facts))
  obtain ⟨⟨_, _, _, _, _, _, _, r7, r8, r9, _⟩, _⟩ := h2.rd.facts
  obtain ⟨gq, fq, e1q, _, x4, _⟩ := h2.fams.at_ hX
  injection e1q with e1q e2q e3q
  injection e1q with e1q
  injection e1q with e1q e4q
  clear e2q e4q
  subst e1q e3q
  have x0 := FamsAt.name_ h2.fams hX
  have hS0 : (w2.drew.cell? ⟨w.heap.size, 0, none⟩ = some (.int .i64 x.row.kind) ∧ w2.drew.cell? ⟨w.heap.size, 1, none⟩ = some (.string x.row.name) ∧ w2.drew.cell? ⟨g, i * 5, none⟩ = some (.string X.name) ∧ w2.drew.cell? ⟨g, i * 5 + 4, none⟩ = some (.slice X.A X.pts.length X.c)) ∧ Aw [] w2.drew w2.drew := ⟨⟨e0, e1, x0, x4⟩, Aw.refl [] _⟩
  have HX := Lib.hid hX
  have kK := fun W hA => known_any r c o l k s (.slice (some ⟨g, 0, none⟩) (i + 1) fc) fs t1 t2 t3 N x.row.name w0 W (h2.drew.call hA) (by omega)
  rw [hkn] at kK
  have HO : Hid (∀ W, Aw [] w2.drew W → OA w0 W r c o l k s (.slice (some ⟨g, 0, none⟩) (i + 1) fc) fs t1 t2 t3 N) := Lib.hid (fun W hA => h2.drew.call hA)
  have HRB : Hid (∀ W, Aw [] w2.drew W → RowAt W w.heap.size x) := Lib.hid (fun W hA => (hR2.aw (Aw.refl [] w2).drew (by simp)).aw hA (by simp))
  clear kS h1 hR h2 hR2 hA2 e0 e1 e2 x4 x0 r7 r8 r9 hX hkn hne hpt
  refine wp_region_held_drew (S := (fun w' => (w'.cell? ⟨w.heap.size, 0, none⟩ = some (.int .i64 x.row.kind) ∧ w'.cell? ⟨w.heap.size, 1, none⟩ = some (.string x.row.name) ∧ w'.cell? ⟨g, i * 5, none⟩ = some (.string X.name) ∧ w'.cell? ⟨g, i * 5 + 4, none⟩ = some (.slice X.A X.pts.length X.c)) ∧ Aw [] w2.drew w')) (by kernel_rfl) ?_ (fun hHeld0 => ?_)
  · (try dsimp only); (first | exact hS0 | assumption)
  refine wpAnyH_take (i := 0) (oi := _) (v := ?_) rfl (by kernel_rfl) (by kernel_rfl) (by kernel_rfl) (fun _ _ _ h => h) (Or.inl ⟨by rfl, ?_⟩) (by assumption) ?_
  rotate_left
  focus ((intro w hSw; (try dsimp only at hSw); go_simp; try with_reducible rfl); done)
  (try simp only [Act.put, List.setIfInBounds_toArray, List.set_cons_zero, List.set_cons_succ, List.getElem_toArray, List.getElem_cons_zero, List.getElem_cons_succ])
  refine wpAnyH_take (i := 1) (oi := _) (v := ?_) rfl (by kernel_rfl) (by kernel_rfl) (by kernel_rfl) (fun _ _ _ h => h) (Or.inl ⟨by rfl, ?_⟩) (by assumption) ?_
  rotate_left
  focus ((intro w hSw; (try dsimp only at hSw); go_simp; try with_reducible rfl); done)
  (try simp only [Act.put, List.setIfInBounds_toArray, List.set_cons_zero, List.set_cons_succ, List.getElem_toArray, List.getElem_cons_zero, List.getElem_cons_succ])
  refine wpAnyH_take (i := 2) (oi := _) (v := ?_) rfl (by kernel_rfl) (by kernel_rfl) (by kernel_rfl) (fun _ _ _ h => h) (Or.inl ⟨by rfl, ?_⟩) (by assumption) ?_
  rotate_left
  focus ((intro w hSw; (try dsimp only at hSw); go_simp; try with_reducible rfl); done)
  (try simp only [Act.put, List.setIfInBounds_toArray, List.set_cons_zero, List.set_cons_succ, List.getElem_toArray, List.getElem_cons_zero, List.getElem_cons_succ])
  refine wpAnyH_ready (rs := [3]) (by kernel_rfl) (by simp) ?_
  refine AllReadyH.cons (o := _) rfl (fun K hK => ?_) AllReadyH.nil
  go_simp
  go_wp2_with (go_at_call 121; (with_reducible refine (kK _ (by first | assumption | exact Aw.refl [] _)).mono ?_); rintro e w3 ⟨rfl, hA3⟩; obtain ⟨_, hcur⟩ := ‹(_ ∧ _) ∧ Aw [] w2.drew _›; have hA4 := hcur.trans hA3; have hS3 := And.intro (And.intro (HRB.out _ hA4).facts.1 (And.intro (HRB.out _ hA4).facts.2.1 (And.intro (FamsAt.name_ (HO.out _ hA4).fams HX.out) (FamsAt.pts_ (HO.out _ hA4).fams HX.out)))) hA4)
  refine hK.out _ _ ?_ (fun hHeld1 => ?_)
  · (try dsimp only); (first | exact hS0 | assumption)
  clear hK K
  (try simp only [Act.put, List.setIfInBounds_toArray, List.set_cons_zero, List.set_cons_succ, List.getElem_toArray, List.getElem_cons_zero, List.getElem_cons_succ])
  refine wpAnyH_take (i := 4) (oi := _) (v := ?_) rfl (by kernel_rfl) (by kernel_rfl) (by kernel_rfl) (fun _ _ _ h => h) (Or.inl ⟨by rfl, ?_⟩) (by assumption) ?_
  rotate_left
  focus ((intro w hSw; (try dsimp only at hSw); go_simp; try with_reducible rfl); done)
  (try simp only [Act.put, List.setIfInBounds_toArray, List.set_cons_zero, List.set_cons_succ, List.getElem_toArray, List.getElem_cons_zero, List.getElem_cons_succ])
  refine wpAnyH_take (i := 5) (oi := _) (v := ?_) rfl (by kernel_rfl) (by kernel_rfl) (by kernel_rfl) (fun _ _ _ h => h) (Or.inl ⟨by rfl, ?_⟩) (by assumption) ?_
  rotate_left
  focus ((intro w hSw; (try dsimp only at hSw); go_simp; try with_reducible rfl); done)
  (try simp only [Act.put, List.setIfInBounds_toArray, List.set_cons_zero, List.set_cons_succ, List.getElem_toArray, List.getElem_cons_zero, List.getElem_cons_succ])
  refine wpAnyH_take (i := 10) (oi := _) (v := ?_) rfl (by kernel_rfl) (by kernel_rfl) (by kernel_rfl) (fun _ _ _ h => h) (Or.inl ⟨by rfl, ?_⟩) (by assumption) ?_
  rotate_left
  focus ((intro w hSw; (try dsimp only at hSw); go_simp; try with_reducible rfl); done)
  (try simp only [Act.put, List.setIfInBounds_toArray, List.set_cons_zero, List.set_cons_succ, List.getElem_toArray, List.getElem_cons_zero, List.getElem_cons_succ])
  refine wpAnyH_take (i := 11) (oi := _) (v := ?_) rfl (by kernel_rfl) (by kernel_rfl) (by kernel_rfl) (fun _ _ _ h => h) (Or.inl ⟨by rfl, ?_⟩) (by assumption) ?_
  rotate_left
  focus ((intro w hSw; (try dsimp only at hSw); go_simp; try with_reducible rfl); done)
  (try simp only [Act.put, List.setIfInBounds_toArray, List.set_cons_zero, List.set_cons_succ, List.getElem_toArray, List.getElem_cons_zero, List.getElem_cons_succ])
  refine wpAnyH_ready (rs := [6]) (by kernel_rfl) (by simp) ?_
  refine AllReadyH.cons (o := _) rfl (fun K hK => ?_) AllReadyH.nil
  go_simp
  refine hK.out _ _ ?_ (fun hHeld2 => ?_)
  · (try dsimp only); (first | exact hS0 | assumption)
  clear hK K
  (try simp only [Act.put, List.setIfInBounds_toArray, List.set_cons_zero, List.set_cons_succ, List.getElem_toArray, List.getElem_cons_zero, List.getElem_cons_succ])
  refine wpAnyH_take (i := 7) (oi := _) (v := ?_) rfl (by kernel_rfl) (by kernel_rfl) (by kernel_rfl) (fun _ _ _ h => h) (Or.inl ⟨by rfl, ?_⟩) (by assumption) ?_
  rotate_left
  focus ((intro w hSw; (try dsimp only at hSw); go_simp; try with_reducible rfl); done)
  (try simp only [Act.put, List.setIfInBounds_toArray, List.set_cons_zero, List.set_cons_succ, List.getElem_toArray, List.getElem_cons_zero, List.getElem_cons_succ])
  refine wpAnyH_take (i := 8) (oi := _) (v := ?_) rfl (by kernel_rfl) (by kernel_rfl) (by kernel_rfl) (fun _ _ _ h => h) (Or.inl ⟨by rfl, ?_⟩) (by assumption) ?_
  rotate_left
  focus ((intro w hSw; (try dsimp only at hSw); go_simp; try with_reducible rfl); done)
  (try simp only [Act.put, List.setIfInBounds_toArray, List.set_cons_zero, List.set_cons_succ, List.getElem_toArray, List.getElem_cons_zero, List.getElem_cons_succ])
  refine wpAnyH_take (i := 9) (oi := _) (v := ?_) rfl (by kernel_rfl) (by kernel_rfl) (by kernel_rfl) (fun _ _ _ h => h) (Or.inl ⟨by rfl, ?_⟩) (by assumption) ?_
  rotate_left
  focus ((intro w hSw; (try dsimp only at hSw); go_simp; try with_reducible rfl); done)
  (try simp only [Act.put, List.setIfInBounds_toArray, List.set_cons_zero, List.set_cons_succ, List.getElem_toArray, List.getElem_cons_zero, List.getElem_cons_succ])
  refine wpAnyH_take (i := 12) (oi := _) (v := ?_) rfl (by kernel_rfl) (by kernel_rfl) (by kernel_rfl) (fun _ _ _ h => h) (Or.inl ⟨by rfl, ?_⟩) (by assumption) ?_
  rotate_left
  focus ((intro w hSw; (try dsimp only at hSw); go_simp; try with_reducible rfl); done)
  (try simp only [Act.put, List.setIfInBounds_toArray, List.set_cons_zero, List.set_cons_succ, List.getElem_toArray, List.getElem_cons_zero, List.getElem_cons_succ])
  refine wpAnyH_take (i := 13) (oi := _) (v := ?_) rfl (by kernel_rfl) (by kernel_rfl) (by kernel_rfl) (fun _ _ _ h => h) (Or.inl ⟨by rfl, ?_⟩) (by assumption) ?_
  rotate_left
  focus ((intro w hSw; (try dsimp only at hSw); go_simp; try with_reducible rfl); done)
  (try simp only [Act.put, List.setIfInBounds_toArray, List.set_cons_zero, List.set_cons_succ, List.getElem_toArray, List.getElem_cons_zero, List.getElem_cons_succ])
  refine wpAnyH_take (i := 14) (oi := _) (v := ?_) rfl (by kernel_rfl) (by kernel_rfl) (by kernel_rfl) (fun _ _ _ h => h) (Or.inl ⟨by rfl, ?_⟩) (by assumption) ?_
  rotate_left
  focus ((intro w hSw; (try dsimp only at hSw); go_simp; try with_reducible rfl); done)
  (try simp only [Act.put, List.setIfInBounds_toArray, List.set_cons_zero, List.set_cons_succ, List.getElem_toArray, List.getElem_cons_zero, List.getElem_cons_succ])
  refine wpAnyH_ready (rs := [15]) (by kernel_rfl) (by simp) ?_
  refine AllReadyH.cons (o := _) rfl (fun K hK => ?_) AllReadyH.nil
  go_simp
  refine hK.out _ _ ?_ (fun hHeld3 => ?_)
  · (try dsimp only); (first | exact hS0 | assumption)
  clear hK K
  (try simp only [Act.put, List.setIfInBounds_toArray, List.set_cons_zero, List.set_cons_succ, List.getElem_toArray, List.getElem_cons_zero, List.getElem_cons_succ])
  refine wpAnyH_take (i := 16) (oi := _) (v := ?_) rfl (by kernel_rfl) (by kernel_rfl) (by kernel_rfl) (fun _ _ _ h => h) (Or.inl ⟨by rfl, ?_⟩) (by assumption) ?_
  rotate_left
  focus ((intro w hSw; (try dsimp only at hSw); go_simp; try with_reducible rfl); done)
  (try simp only [Act.put, List.setIfInBounds_toArray, List.set_cons_zero, List.set_cons_succ, List.getElem_toArray, List.getElem_cons_zero, List.getElem_cons_succ])
  refine wpAnyH_take (i := 17) (oi := _) (v := ?_) rfl (by kernel_rfl) (by kernel_rfl) (by kernel_rfl) (fun _ _ _ h => h) (Or.inl ⟨by rfl, ?_⟩) (by assumption) ?_
  rotate_left
  focus ((intro w hSw; (try dsimp only at hSw); go_simp; try with_reducible rfl); done)
  (try simp only [Act.put, List.setIfInBounds_toArray, List.set_cons_zero, List.set_cons_succ, List.getElem_toArray, List.getElem_cons_zero, List.getElem_cons_succ])
  refine wpAnyH_take (i := 18) (oi := _) (v := ?_) rfl (by kernel_rfl) (by kernel_rfl) (by kernel_rfl) (fun _ _ _ h => h) (Or.inl ⟨by rfl, ?_⟩) (by assumption) ?_
  rotate_left
  focus ((intro w hSw; (try dsimp only at hSw); go_simp; try with_reducible rfl); done)
  (try simp only [Act.put, List.setIfInBounds_toArray, List.set_cons_zero, List.set_cons_succ, List.getElem_toArray, List.getElem_cons_zero, List.getElem_cons_succ])
  refine wpAnyH_take (i := 19) (oi := _) (v := ?_) rfl (by kernel_rfl) (by kernel_rfl) (by kernel_rfl) (fun _ _ _ h => h) (Or.inl ⟨by rfl, ?_⟩) (by assumption) ?_
  rotate_left
  focus ((intro w hSw; (try dsimp only at hSw); go_simp; try with_reducible rfl); done)
  (try simp only [Act.put, List.setIfInBounds_toArray, List.set_cons_zero, List.set_cons_succ, List.getElem_toArray, List.getElem_cons_zero, List.getElem_cons_succ])
  refine wpAnyH_take (i := 20) (oi := _) (v := ?_) rfl (by kernel_rfl) (by kernel_rfl) (by kernel_rfl) (fun _ _ _ h => h) (Or.inl ⟨by rfl, ?_⟩) (by assumption) ?_
  rotate_left
  focus ((intro w hSw; (try dsimp only at hSw); go_simp; try with_reducible rfl); done)
  (try simp only [Act.put, List.setIfInBounds_toArray, List.set_cons_zero, List.set_cons_succ, List.getElem_toArray, List.getElem_cons_zero, List.getElem_cons_succ])
  refine wpAnyH_take (i := 21) (oi := _) (v := ?_) rfl (by kernel_rfl) (by kernel_rfl) (by kernel_rfl) (fun _ _ _ h => h) (Or.inl ⟨by rfl, ?_⟩) (by assumption) ?_
  rotate_left
  focus ((intro w hSw; (try dsimp only at hSw); go_simp; try with_reducible rfl); done)
  (try simp only [Act.put, List.setIfInBounds_toArray, List.set_cons_zero, List.set_cons_succ, List.getElem_toArray, List.getElem_cons_zero, List.getElem_cons_succ])
  refine wpAnyH_take (i := 22) (oi := _) (v := undef) rfl (by kernel_rfl) (by kernel_rfl) (by kernel_rfl) (fun _ _ _ h => h) (Or.inr ⟨by rfl, rfl⟩) (by assumption) ?_
  (try simp only [Act.put, List.setIfInBounds_toArray, List.set_cons_zero, List.set_cons_succ, List.getElem_toArray, List.getElem_cons_zero, List.getElem_cons_succ])
  refine wpAnyH_take (i := 23) (oi := _) (v := undef) rfl (by kernel_rfl) (by kernel_rfl) (by kernel_rfl) (fun _ _ _ h => h) (Or.inr ⟨by rfl, rfl⟩) (by assumption) ?_
  (try simp only [Act.put, List.setIfInBounds_toArray, List.set_cons_zero, List.set_cons_succ, List.getElem_toArray, List.getElem_cons_zero, List.getElem_cons_succ])
  refine wpAnyH_take (i := 24) (oi := _) (v := undef) rfl (by kernel_rfl) (by kernel_rfl) (by kernel_rfl) (fun _ _ _ h => h) (Or.inr ⟨by rfl, rfl⟩) (by assumption) ?_
  (try simp only [Act.put, List.setIfInBounds_toArray, List.set_cons_zero, List.set_cons_succ, List.getElem_toArray, List.getElem_cons_zero, List.getElem_cons_succ])
  refine wpAnyH_take (i := 25) (oi := _) (v := undef) rfl (by kernel_rfl) (by kernel_rfl) (by kernel_rfl) (fun _ _ _ h => h) (Or.inr ⟨by rfl, rfl⟩) (by assumption) ?_
  (try simp only [Act.put, List.setIfInBounds_toArray, List.set_cons_zero, List.set_cons_succ, List.getElem_toArray, List.getElem_cons_zero, List.getElem_cons_succ])
  refine wpAnyH_take (i := 26) (oi := _) (v := undef) rfl (by kernel_rfl) (by kernel_rfl) (by kernel_rfl) (fun _ _ _ h => h) (Or.inr ⟨by rfl, rfl⟩) (by assumption) ?_
  (try simp only [Act.put, List.setIfInBounds_toArray, List.set_cons_zero, List.set_cons_succ, List.getElem_toArray, List.getElem_cons_zero, List.getElem_cons_succ])
  refine wpAnyH_take (i := 27) (oi := _) (v := undef) rfl (by kernel_rfl) (by kernel_rfl) (by kernel_rfl) (fun _ _ _ h => h) (Or.inr ⟨by rfl, rfl⟩) (by assumption) ?_
  (try simp only [Act.put, List.setIfInBounds_toArray, List.set_cons_zero, List.set_cons_succ, List.getElem_toArray, List.getElem_cons_zero, List.getElem_cons_succ])
  refine wpAnyH_take (i := 28) (oi := _) (v := undef) rfl (by kernel_rfl) (by kernel_rfl) (by kernel_rfl) (fun _ _ _ h => h) (Or.inr ⟨by rfl, rfl⟩) (by assumption) ?_
  (try simp only [Act.put, List.setIfInBounds_toArray, List.set_cons_zero, List.set_cons_succ, List.getElem_toArray, List.getElem_cons_zero, List.getElem_cons_succ])
  refine wpAnyH_take (i := 29) (oi := _) (v := ?_) rfl (by kernel_rfl) (by kernel_rfl) (by kernel_rfl) (fun _ _ _ h => h) (Or.inl ⟨by rfl, ?_⟩) (by assumption) ?_
  rotate_left
  focus ((intro w hSw; (try dsimp only at hSw); go_simp; try with_reducible rfl); done)
  (try simp only [Act.put, List.setIfInBounds_toArray, List.set_cons_zero, List.set_cons_succ, List.getElem_toArray, List.getElem_cons_zero, List.getElem_cons_succ])
  refine wpAnyH_take (i := 30) (oi := _) (v := ?_) rfl (by kernel_rfl) (by kernel_rfl) (by kernel_rfl) (fun _ _ _ h => h) (Or.inl ⟨by rfl, ?_⟩) (by assumption) ?_
  rotate_left
  focus ((intro w hSw; (try dsimp only at hSw); go_simp; try with_reducible rfl); done)
  (try simp only [Act.put, List.setIfInBounds_toArray, List.set_cons_zero, List.set_cons_succ, List.getElem_toArray, List.getElem_cons_zero, List.getElem_cons_succ])
  refine wpAnyH_take (i := 31) (oi := _) (v := ?_) rfl (by kernel_rfl) (by kernel_rfl) (by kernel_rfl) (fun _ _ _ h => h) (Or.inl ⟨by rfl, ?_⟩) (by assumption) ?_
  rotate_left
  focus ((intro w hSw; (try dsimp only at hSw); go_simp; try with_reducible rfl); done)
  (try simp only [Act.put, List.setIfInBounds_toArray, List.set_cons_zero, List.set_cons_succ, List.getElem_toArray, List.getElem_cons_zero, List.getElem_cons_succ])
  refine wpAnyH_done (by kernel_rfl) ?_ _
  have hAe := hHeld2.2
  obtain ⟨e0, e1, e2⟩ := (HRB.out _ hAe).facts
  have hRd := (HO.out _ hAe).rd
  go_wp2_with (go_at_call 76; (with_reducible refine (kF _ hRd).mono ?_); rintro e w4 ⟨rfl, h4, hA5⟩)
  go_ret
  exact ⟨rfl, ⟨_, _, _, _, _, h4⟩, (HO.out _ hAe).aw.trans hA5⟩
end
section
set_option maxRecDepth 100000 in
set_option maxHeartbeats 6400000 in
theorem named_told1 (r : Nat) (c o l k : Int) (s : ByteArray) (fv : Value) (fs : List VFam) (t1 t2 t3 : Bool) (N i : Nat) (x : VRow) (X : VFam) (w0 w : World) (h : OA w0 w r c o l k s fv fs t1 t2 t3 N) (hs : s.size ≤ 1048576) (h30 : fs.length ≤ 31) (hx : x.row.name.size ≤ 60)
    (hi : fs.length = i + 1) (hX : fs[i]? = some X) (hkn : knownO (fs.map VFam.fam) x.row.name.data.toList = true) (hne : (X.name.data.toList == x.row.name.data.toList) = true) (hpt : X.pts.length = 0) (hk : x.row.kind = 1) (ht : t1 = true) (hpl : X.pts.length ≤ 120) :
    Calls Tryz.prog 81 #[.pointer (some ⟨r, 0, none⟩), .agg #[.int .i64 x.row.kind, .string x.row.name, .int .i64 x.row.off, .slice x.tA x.row.tags.length x.tc, .slice x.fA x.row.fields.length x.fc, .string x.row.text, .int .i64 x.row.pos, .bool x.row.timed, .string x.row.time, .int .i64 x.row.when_]] w fun e w' => e = .returned (.bool false) ∧ (∃ fv t1 t2 t3 N, Obf w' r 13 x.row.off s fv t1 t2 t3 N) ∧ Aw [r] w0 w' := by
  subst ht
  have hkz : (x.row.kind : Int) = 1 := by rw [hk]; rfl
  rw [hkz]
  have h1 := h.alloc (.cells #[.int .i64 1, .string x.row.name, .int .i64 x.row.off, .slice x.tA x.row.tags.length x.tc, .slice x.fA x.row.fields.length x.fc, .string x.row.text, .int .i64 x.row.pos, .bool x.row.timed, .string x.row.time, .int .i64 x.row.when_] 43)
  have hR : RowAt (w.alloc (.cells #[.int .i64 1, .string x.row.name, .int .i64 x.row.off, .slice x.tA x.row.tags.length x.tc, .slice x.fA x.row.fields.length x.fc, .string x.row.text, .int .i64 x.row.pos, .bool x.row.timed, .string x.row.time, .int .i64 x.row.when_] 43)) w.heap.size x := by
    unfold RowAt
    rw [hkz]
    exact Blk.new w 43 #[.int .i64 1, .string x.row.name, .int .i64 x.row.off, .slice x.tA x.row.tags.length x.tc, .slice x.fA x.row.fields.length x.fc, .string x.row.text, .int .i64 x.row.pos, .bool x.row.timed, .string x.row.time, .int .i64 x.row.when_]
  obtain ⟨p, _, hp, kS⟩ := stands_any r c o l k s fv fs true t2 t3 N w0 _ h1 h30
  obtain ⟨g, fc, rfl, rfl, hg⟩ := hp i hi
  have d1 : decide ((60 : Int) < (x.row.name.size : Int)) = false := decide_eq_false (by omega)
  have d1n : decide (60 < x.row.name.size) = false := decide_eq_false (by omega)
  have p1 : decide ((0 : Int) < (X.pts.length : Int)) = false := decide_eq_false (by omega)
  have p1n : decide (0 < X.pts.length) = false := decide_eq_false (by omega)
  have hn1 : (X.name.toList == x.row.name.toList) = true := by rw [ByteArray.toList_eq, ByteArray.toList_eq]; exact hne
  have kF : ∀ W, Ob W r c o l k s (.slice (some ⟨g, 0, none⟩) (i + 1) fc) true t2 t3 N → Calls Tryz.prog 76 #[.pointer (some ⟨r, 0, none⟩), .int .i64 13, .int .i64 (x.row.off : Int)] W fun e w' => e = .returned (.bool false) ∧ Obf w' r 13 x.row.off s (.slice (some ⟨g, 0, none⟩) (i + 1) fc) true t2 t3 N ∧ Aw [r] W w' := fun W h => ofails_any r c o l k s _ true t2 t3 N 13 x.row.off W h hs
  clear h hp
  go_enter Tryz.func81, Tryz.ntmps81
  go_upto_region 4 with (
    (go_at_call 75; (with_reducible refine kS.mono ?_); rintro e w2 ⟨rfl, hA2⟩; have h2 := h1.call hA2; have hR2 := hR.aw hA2 (by simp); obtain ⟨e0, e1, e2⟩ := hR2.facts; rw [hkz] at e0))
  obtain ⟨⟨_, _, _, _, _, _, _, r7, r8, r9, _⟩, _⟩ := h2.rd.facts
  obtain ⟨gq, fq, e1q, _, x4, _⟩ := h2.fams.at_ hX
  injection e1q with e1q e2q e3q
  injection e1q with e1q
  injection e1q with e1q e4q
  clear e2q e4q
  subst e1q e3q
  have x0 := FamsAt.name_ h2.fams hX
  have hS0 : (w2.drew.cell? ⟨w.heap.size, 0, none⟩ = some (.int .i64 1) ∧ w2.drew.cell? ⟨w.heap.size, 1, none⟩ = some (.string x.row.name) ∧ w2.drew.cell? ⟨g, i * 5, none⟩ = some (.string X.name) ∧ w2.drew.cell? ⟨g, i * 5 + 4, none⟩ = some (.slice X.A X.pts.length X.c) ∧ w2.drew.cell? ⟨r, 7, none⟩ = some (.bool true)) ∧ Aw [] w2.drew w2.drew := ⟨⟨e0, e1, x0, x4, r7⟩, Aw.refl [] _⟩
  have HX := Lib.hid hX
  have kK := fun W hA => known_any r c o l k s (.slice (some ⟨g, 0, none⟩) (i + 1) fc) fs true t2 t3 N x.row.name w0 W (h2.drew.call hA) (by omega)
  rw [hkn] at kK
  have HO : Hid (∀ W, Aw [] w2.drew W → OA w0 W r c o l k s (.slice (some ⟨g, 0, none⟩) (i + 1) fc) fs true t2 t3 N) := Lib.hid (fun W hA => h2.drew.call hA)
  have HRB : Hid (∀ W, Aw [] w2.drew W → RowAt W w.heap.size x) := Lib.hid (fun W hA => (hR2.aw (Aw.refl [] w2).drew (by simp)).aw hA (by simp))
  clear kS h1 hR h2 hR2 hA2 e0 e1 e2 x4 x0 r7 r8 r9 hX hkn hne hpt hk
  refine wp_region_held_drew (S := (fun w' => (w'.cell? ⟨w.heap.size, 0, none⟩ = some (.int .i64 1) ∧ w'.cell? ⟨w.heap.size, 1, none⟩ = some (.string x.row.name) ∧ w'.cell? ⟨g, i * 5, none⟩ = some (.string X.name) ∧ w'.cell? ⟨g, i * 5 + 4, none⟩ = some (.slice X.A X.pts.length X.c) ∧ w'.cell? ⟨r, 7, none⟩ = some (.bool true)) ∧ Aw [] w2.drew w')) (by kernel_rfl) ?_ (fun hHeld0 => ?_)
  · (try dsimp only); (first | exact hS0 | assumption)
  refine wpAnyH_take (i := 0) (oi := _) (v := ?_) rfl (by kernel_rfl) (by kernel_rfl) (by kernel_rfl) (fun _ _ _ h => h) (Or.inl ⟨by rfl, ?_⟩) (by assumption) ?_
  rotate_left
  focus ((intro w hSw; (try dsimp only at hSw); go_simp; try with_reducible rfl); done)
  (try simp only [Act.put, List.setIfInBounds_toArray, List.set_cons_zero, List.set_cons_succ, List.getElem_toArray, List.getElem_cons_zero, List.getElem_cons_succ])
  refine wpAnyH_take (i := 1) (oi := _) (v := ?_) rfl (by kernel_rfl) (by kernel_rfl) (by kernel_rfl) (fun _ _ _ h => h) (Or.inl ⟨by rfl, ?_⟩) (by assumption) ?_
  rotate_left
  focus ((intro w hSw; (try dsimp only at hSw); go_simp; try with_reducible rfl); done)
  (try simp only [Act.put, List.setIfInBounds_toArray, List.set_cons_zero, List.set_cons_succ, List.getElem_toArray, List.getElem_cons_zero, List.getElem_cons_succ])
  refine wpAnyH_take (i := 2) (oi := _) (v := ?_) rfl (by kernel_rfl) (by kernel_rfl) (by kernel_rfl) (fun _ _ _ h => h) (Or.inl ⟨by rfl, ?_⟩) (by assumption) ?_
  rotate_left
  focus ((intro w hSw; (try dsimp only at hSw); go_simp; try with_reducible rfl); done)
  (try simp only [Act.put, List.setIfInBounds_toArray, List.set_cons_zero, List.set_cons_succ, List.getElem_toArray, List.getElem_cons_zero, List.getElem_cons_succ])
  refine wpAnyH_ready (rs := [3]) (by kernel_rfl) (by simp) ?_
  refine AllReadyH.cons (o := _) rfl (fun K hK => ?_) AllReadyH.nil
  go_simp
  go_wp2_with (go_at_call 121; (with_reducible refine (kK _ (by first | assumption | exact Aw.refl [] _)).mono ?_); rintro e w3 ⟨rfl, hA3⟩; obtain ⟨_, hcur⟩ := ‹(_ ∧ _) ∧ Aw [] w2.drew _›; have hA4 := hcur.trans hA3; have hS3 := And.intro (And.intro ((HRB.out _ hA4).facts.1.trans (by rw [hkz])) (And.intro (HRB.out _ hA4).facts.2.1 (And.intro (FamsAt.name_ (HO.out _ hA4).fams HX.out) (And.intro (FamsAt.pts_ (HO.out _ hA4).fams HX.out) ((HO.out _ hA4).rd.facts.1.2.2.2.2.2.2.2.1))))) hA4)
  refine hK.out _ _ ?_ (fun hHeld1 => ?_)
  · (try dsimp only); (first | exact hS0 | assumption)
  clear hK K
  (try simp only [Act.put, List.setIfInBounds_toArray, List.set_cons_zero, List.set_cons_succ, List.getElem_toArray, List.getElem_cons_zero, List.getElem_cons_succ])
  refine wpAnyH_take (i := 4) (oi := _) (v := ?_) rfl (by kernel_rfl) (by kernel_rfl) (by kernel_rfl) (fun _ _ _ h => h) (Or.inl ⟨by rfl, ?_⟩) (by assumption) ?_
  rotate_left
  focus ((intro w hSw; (try dsimp only at hSw); go_simp; try with_reducible rfl); done)
  (try simp only [Act.put, List.setIfInBounds_toArray, List.set_cons_zero, List.set_cons_succ, List.getElem_toArray, List.getElem_cons_zero, List.getElem_cons_succ])
  refine wpAnyH_take (i := 5) (oi := _) (v := ?_) rfl (by kernel_rfl) (by kernel_rfl) (by kernel_rfl) (fun _ _ _ h => h) (Or.inl ⟨by rfl, ?_⟩) (by assumption) ?_
  rotate_left
  focus ((intro w hSw; (try dsimp only at hSw); go_simp; try with_reducible rfl); done)
  (try simp only [Act.put, List.setIfInBounds_toArray, List.set_cons_zero, List.set_cons_succ, List.getElem_toArray, List.getElem_cons_zero, List.getElem_cons_succ])
  refine wpAnyH_take (i := 10) (oi := _) (v := ?_) rfl (by kernel_rfl) (by kernel_rfl) (by kernel_rfl) (fun _ _ _ h => h) (Or.inl ⟨by rfl, ?_⟩) (by assumption) ?_
  rotate_left
  focus ((intro w hSw; (try dsimp only at hSw); go_simp; try with_reducible rfl); done)
  (try simp only [Act.put, List.setIfInBounds_toArray, List.set_cons_zero, List.set_cons_succ, List.getElem_toArray, List.getElem_cons_zero, List.getElem_cons_succ])
  refine wpAnyH_take (i := 11) (oi := _) (v := ?_) rfl (by kernel_rfl) (by kernel_rfl) (by kernel_rfl) (fun _ _ _ h => h) (Or.inl ⟨by rfl, ?_⟩) (by assumption) ?_
  rotate_left
  focus ((intro w hSw; (try dsimp only at hSw); go_simp; try with_reducible rfl); done)
  (try simp only [Act.put, List.setIfInBounds_toArray, List.set_cons_zero, List.set_cons_succ, List.getElem_toArray, List.getElem_cons_zero, List.getElem_cons_succ])
  refine wpAnyH_ready (rs := [6]) (by kernel_rfl) (by simp) ?_
  refine AllReadyH.cons (o := _) rfl (fun K hK => ?_) AllReadyH.nil
  go_simp
  refine hK.out _ _ ?_ (fun hHeld2 => ?_)
  · (try dsimp only); (first | exact hS0 | assumption)
  clear hK K
  (try simp only [Act.put, List.setIfInBounds_toArray, List.set_cons_zero, List.set_cons_succ, List.getElem_toArray, List.getElem_cons_zero, List.getElem_cons_succ])
  refine wpAnyH_take (i := 7) (oi := _) (v := ?_) rfl (by kernel_rfl) (by kernel_rfl) (by kernel_rfl) (fun _ _ _ h => h) (Or.inl ⟨by rfl, ?_⟩) (by assumption) ?_
  rotate_left
  focus ((intro w hSw; (try dsimp only at hSw); go_simp; try with_reducible rfl); done)
  (try simp only [Act.put, List.setIfInBounds_toArray, List.set_cons_zero, List.set_cons_succ, List.getElem_toArray, List.getElem_cons_zero, List.getElem_cons_succ])
  refine wpAnyH_take (i := 8) (oi := _) (v := ?_) rfl (by kernel_rfl) (by kernel_rfl) (by kernel_rfl) (fun _ _ _ h => h) (Or.inl ⟨by rfl, ?_⟩) (by assumption) ?_
  rotate_left
  focus ((intro w hSw; (try dsimp only at hSw); go_simp; try with_reducible rfl); done)
  (try simp only [Act.put, List.setIfInBounds_toArray, List.set_cons_zero, List.set_cons_succ, List.getElem_toArray, List.getElem_cons_zero, List.getElem_cons_succ])
  refine wpAnyH_take (i := 9) (oi := _) (v := ?_) rfl (by kernel_rfl) (by kernel_rfl) (by kernel_rfl) (fun _ _ _ h => h) (Or.inl ⟨by rfl, ?_⟩) (by assumption) ?_
  rotate_left
  focus ((intro w hSw; (try dsimp only at hSw); go_simp; try with_reducible rfl); done)
  (try simp only [Act.put, List.setIfInBounds_toArray, List.set_cons_zero, List.set_cons_succ, List.getElem_toArray, List.getElem_cons_zero, List.getElem_cons_succ])
  refine wpAnyH_take (i := 12) (oi := _) (v := ?_) rfl (by kernel_rfl) (by kernel_rfl) (by kernel_rfl) (fun _ _ _ h => h) (Or.inl ⟨by rfl, ?_⟩) (by assumption) ?_
  rotate_left
  focus ((intro w hSw; (try dsimp only at hSw); go_simp; try with_reducible rfl); done)
  (try simp only [Act.put, List.setIfInBounds_toArray, List.set_cons_zero, List.set_cons_succ, List.getElem_toArray, List.getElem_cons_zero, List.getElem_cons_succ])
  refine wpAnyH_take (i := 13) (oi := _) (v := ?_) rfl (by kernel_rfl) (by kernel_rfl) (by kernel_rfl) (fun _ _ _ h => h) (Or.inl ⟨by rfl, ?_⟩) (by assumption) ?_
  rotate_left
  focus ((intro w hSw; (try dsimp only at hSw); go_simp; try with_reducible rfl); done)
  (try simp only [Act.put, List.setIfInBounds_toArray, List.set_cons_zero, List.set_cons_succ, List.getElem_toArray, List.getElem_cons_zero, List.getElem_cons_succ])
  refine wpAnyH_take (i := 14) (oi := _) (v := ?_) rfl (by kernel_rfl) (by kernel_rfl) (by kernel_rfl) (fun _ _ _ h => h) (Or.inl ⟨by rfl, ?_⟩) (by assumption) ?_
  rotate_left
  focus ((intro w hSw; (try dsimp only at hSw); go_simp; try with_reducible rfl); done)
  (try simp only [Act.put, List.setIfInBounds_toArray, List.set_cons_zero, List.set_cons_succ, List.getElem_toArray, List.getElem_cons_zero, List.getElem_cons_succ])
  refine wpAnyH_ready (rs := [15]) (by kernel_rfl) (by simp) ?_
  refine AllReadyH.cons (o := _) rfl (fun K hK => ?_) AllReadyH.nil
  go_simp
  refine hK.out _ _ ?_ (fun hHeld3 => ?_)
  · (try dsimp only); (first | exact hS0 | assumption)
  clear hK K
  (try simp only [Act.put, List.setIfInBounds_toArray, List.set_cons_zero, List.set_cons_succ, List.getElem_toArray, List.getElem_cons_zero, List.getElem_cons_succ])
  refine wpAnyH_take (i := 16) (oi := _) (v := ?_) rfl (by kernel_rfl) (by kernel_rfl) (by kernel_rfl) (fun _ _ _ h => h) (Or.inl ⟨by rfl, ?_⟩) (by assumption) ?_
  rotate_left
  focus ((intro w hSw; (try dsimp only at hSw); go_simp; try with_reducible rfl); done)
  (try simp only [Act.put, List.setIfInBounds_toArray, List.set_cons_zero, List.set_cons_succ, List.getElem_toArray, List.getElem_cons_zero, List.getElem_cons_succ])
  refine wpAnyH_take (i := 17) (oi := _) (v := ?_) rfl (by kernel_rfl) (by kernel_rfl) (by kernel_rfl) (fun _ _ _ h => h) (Or.inl ⟨by rfl, ?_⟩) (by assumption) ?_
  rotate_left
  focus ((intro w hSw; (try dsimp only at hSw); go_simp; try with_reducible rfl); done)
  (try simp only [Act.put, List.setIfInBounds_toArray, List.set_cons_zero, List.set_cons_succ, List.getElem_toArray, List.getElem_cons_zero, List.getElem_cons_succ])
  refine wpAnyH_take (i := 18) (oi := _) (v := ?_) rfl (by kernel_rfl) (by kernel_rfl) (by kernel_rfl) (fun _ _ _ h => h) (Or.inl ⟨by rfl, ?_⟩) (by assumption) ?_
  rotate_left
  focus ((intro w hSw; (try dsimp only at hSw); go_simp; try with_reducible rfl); done)
  (try simp only [Act.put, List.setIfInBounds_toArray, List.set_cons_zero, List.set_cons_succ, List.getElem_toArray, List.getElem_cons_zero, List.getElem_cons_succ])
  refine wpAnyH_take (i := 19) (oi := _) (v := ?_) rfl (by kernel_rfl) (by kernel_rfl) (by kernel_rfl) (fun _ _ _ h => h) (Or.inl ⟨by rfl, ?_⟩) (by assumption) ?_
  rotate_left
  focus ((intro w hSw; (try dsimp only at hSw); go_simp; try with_reducible rfl); done)
  (try simp only [Act.put, List.setIfInBounds_toArray, List.set_cons_zero, List.set_cons_succ, List.getElem_toArray, List.getElem_cons_zero, List.getElem_cons_succ])
  refine wpAnyH_take (i := 20) (oi := _) (v := ?_) rfl (by kernel_rfl) (by kernel_rfl) (by kernel_rfl) (fun _ _ _ h => h) (Or.inl ⟨by rfl, ?_⟩) (by assumption) ?_
  rotate_left
  focus ((intro w hSw; (try dsimp only at hSw); go_simp; try with_reducible rfl); done)
  (try simp only [Act.put, List.setIfInBounds_toArray, List.set_cons_zero, List.set_cons_succ, List.getElem_toArray, List.getElem_cons_zero, List.getElem_cons_succ])
  refine wpAnyH_take (i := 21) (oi := _) (v := ?_) rfl (by kernel_rfl) (by kernel_rfl) (by kernel_rfl) (fun _ _ _ h => h) (Or.inl ⟨by rfl, ?_⟩) (by assumption) ?_
  rotate_left
  focus ((intro w hSw; (try dsimp only at hSw); go_simp; try with_reducible rfl); done)
  (try simp only [Act.put, List.setIfInBounds_toArray, List.set_cons_zero, List.set_cons_succ, List.getElem_toArray, List.getElem_cons_zero, List.getElem_cons_succ])
  refine wpAnyH_take (i := 22) (oi := _) (v := ?_) rfl (by kernel_rfl) (by kernel_rfl) (by kernel_rfl) (fun _ _ _ h => h) (Or.inl ⟨by rfl, ?_⟩) (by assumption) ?_
  rotate_left
  focus ((intro w hSw; (try dsimp only at hSw); go_simp; try with_reducible rfl); done)
  (try simp only [Act.put, List.setIfInBounds_toArray, List.set_cons_zero, List.set_cons_succ, List.getElem_toArray, List.getElem_cons_zero, List.getElem_cons_succ])
  refine wpAnyH_take (i := 23) (oi := _) (v := ?_) rfl (by kernel_rfl) (by kernel_rfl) (by kernel_rfl) (fun _ _ _ h => h) (Or.inl ⟨by rfl, ?_⟩) (by assumption) ?_
  rotate_left
  focus ((intro w hSw; (try dsimp only at hSw); go_simp; try with_reducible rfl); done)
  (try simp only [Act.put, List.setIfInBounds_toArray, List.set_cons_zero, List.set_cons_succ, List.getElem_toArray, List.getElem_cons_zero, List.getElem_cons_succ])
  refine wpAnyH_take (i := 24) (oi := _) (v := ?_) rfl (by kernel_rfl) (by kernel_rfl) (by kernel_rfl) (fun _ _ _ h => h) (Or.inl ⟨by rfl, ?_⟩) (by assumption) ?_
  rotate_left
  focus ((intro w hSw; (try dsimp only at hSw); go_simp; try with_reducible rfl); done)
  (try simp only [Act.put, List.setIfInBounds_toArray, List.set_cons_zero, List.set_cons_succ, List.getElem_toArray, List.getElem_cons_zero, List.getElem_cons_succ])
  refine wpAnyH_ready (rs := [25]) (by kernel_rfl) (by simp) ?_
  refine AllReadyH.cons (o := _) rfl (fun K hK => ?_) AllReadyH.nil
  go_simp
  refine hK.out _ _ ?_ (fun hHeld4 => ?_)
  · (try dsimp only); (first | exact hS0 | assumption)
  clear hK K
  (try simp only [Act.put, List.setIfInBounds_toArray, List.set_cons_zero, List.set_cons_succ, List.getElem_toArray, List.getElem_cons_zero, List.getElem_cons_succ])
  refine wpAnyH_take (i := 26) (oi := _) (v := ?_) rfl (by kernel_rfl) (by kernel_rfl) (by kernel_rfl) (fun _ _ _ h => h) (Or.inl ⟨by rfl, ?_⟩) (by assumption) ?_
  rotate_left
  focus ((intro w hSw; (try dsimp only at hSw); go_simp; try with_reducible rfl); done)
  (try simp only [Act.put, List.setIfInBounds_toArray, List.set_cons_zero, List.set_cons_succ, List.getElem_toArray, List.getElem_cons_zero, List.getElem_cons_succ])
  refine wpAnyH_take (i := 27) (oi := _) (v := ?_) rfl (by kernel_rfl) (by kernel_rfl) (by kernel_rfl) (fun _ _ _ h => h) (Or.inl ⟨by rfl, ?_⟩) (by assumption) ?_
  rotate_left
  focus ((intro w hSw; (try dsimp only at hSw); go_simp; try with_reducible rfl); done)
  (try simp only [Act.put, List.setIfInBounds_toArray, List.set_cons_zero, List.set_cons_succ, List.getElem_toArray, List.getElem_cons_zero, List.getElem_cons_succ])
  refine wpAnyH_take (i := 28) (oi := _) (v := ?_) rfl (by kernel_rfl) (by kernel_rfl) (by kernel_rfl) (fun _ _ _ h => h) (Or.inl ⟨by rfl, ?_⟩) (by assumption) ?_
  rotate_left
  focus ((intro w hSw; (try dsimp only at hSw); go_simp; try with_reducible rfl); done)
  (try simp only [Act.put, List.setIfInBounds_toArray, List.set_cons_zero, List.set_cons_succ, List.getElem_toArray, List.getElem_cons_zero, List.getElem_cons_succ])
  refine wpAnyH_take (i := 29) (oi := _) (v := ?_) rfl (by kernel_rfl) (by kernel_rfl) (by kernel_rfl) (fun _ _ _ h => h) (Or.inl ⟨by rfl, ?_⟩) (by assumption) ?_
  rotate_left
  focus ((intro w hSw; (try dsimp only at hSw); go_simp; try with_reducible rfl); done)
  (try simp only [Act.put, List.setIfInBounds_toArray, List.set_cons_zero, List.set_cons_succ, List.getElem_toArray, List.getElem_cons_zero, List.getElem_cons_succ])
  refine wpAnyH_take (i := 30) (oi := _) (v := ?_) rfl (by kernel_rfl) (by kernel_rfl) (by kernel_rfl) (fun _ _ _ h => h) (Or.inl ⟨by rfl, ?_⟩) (by assumption) ?_
  rotate_left
  focus ((intro w hSw; (try dsimp only at hSw); go_simp; try with_reducible rfl); done)
  (try simp only [Act.put, List.setIfInBounds_toArray, List.set_cons_zero, List.set_cons_succ, List.getElem_toArray, List.getElem_cons_zero, List.getElem_cons_succ])
  refine wpAnyH_take (i := 31) (oi := _) (v := ?_) rfl (by kernel_rfl) (by kernel_rfl) (by kernel_rfl) (fun _ _ _ h => h) (Or.inl ⟨by rfl, ?_⟩) (by assumption) ?_
  rotate_left
  focus ((intro w hSw; (try dsimp only at hSw); go_simp; try with_reducible rfl); done)
  (try simp only [Act.put, List.setIfInBounds_toArray, List.set_cons_zero, List.set_cons_succ, List.getElem_toArray, List.getElem_cons_zero, List.getElem_cons_succ])
  refine wpAnyH_done (by kernel_rfl) ?_ _
  have hAe := hHeld2.2
  obtain ⟨e0, e1, e2⟩ := (HRB.out _ hAe).facts
  have hRd := (HO.out _ hAe).rd
  go_wp2_with (go_at_call 76; (with_reducible refine (kF _ hRd).mono ?_); rintro e w4 ⟨rfl, h4, hA5⟩)
  go_ret
  exact ⟨rfl, ⟨_, _, _, _, _, h4⟩, (HO.out _ hAe).aw.trans hA5⟩
set_option maxRecDepth 100000 in
set_option maxHeartbeats 6400000 in
theorem named_told2 (r : Nat) (c o l k : Int) (s : ByteArray) (fv : Value) (fs : List VFam) (t1 t2 t3 : Bool) (N i : Nat) (x : VRow) (X : VFam) (w0 w : World) (h : OA w0 w r c o l k s fv fs t1 t2 t3 N) (hs : s.size ≤ 1048576) (h30 : fs.length ≤ 31) (hx : x.row.name.size ≤ 60)
    (hi : fs.length = i + 1) (hX : fs[i]? = some X) (hkn : knownO (fs.map VFam.fam) x.row.name.data.toList = true) (hne : (X.name.data.toList == x.row.name.data.toList) = true) (hpt : X.pts.length = 0) (hk : x.row.kind = 2) (ht : t2 = true) (hpl : X.pts.length ≤ 120) :
    Calls Tryz.prog 81 #[.pointer (some ⟨r, 0, none⟩), .agg #[.int .i64 x.row.kind, .string x.row.name, .int .i64 x.row.off, .slice x.tA x.row.tags.length x.tc, .slice x.fA x.row.fields.length x.fc, .string x.row.text, .int .i64 x.row.pos, .bool x.row.timed, .string x.row.time, .int .i64 x.row.when_]] w fun e w' => e = .returned (.bool false) ∧ (∃ fv t1 t2 t3 N, Obf w' r 13 x.row.off s fv t1 t2 t3 N) ∧ Aw [r] w0 w' := by
  subst ht
  have hkz : (x.row.kind : Int) = 2 := by rw [hk]; rfl
  rw [hkz]
  have h1 := h.alloc (.cells #[.int .i64 2, .string x.row.name, .int .i64 x.row.off, .slice x.tA x.row.tags.length x.tc, .slice x.fA x.row.fields.length x.fc, .string x.row.text, .int .i64 x.row.pos, .bool x.row.timed, .string x.row.time, .int .i64 x.row.when_] 43)
  have hR : RowAt (w.alloc (.cells #[.int .i64 2, .string x.row.name, .int .i64 x.row.off, .slice x.tA x.row.tags.length x.tc, .slice x.fA x.row.fields.length x.fc, .string x.row.text, .int .i64 x.row.pos, .bool x.row.timed, .string x.row.time, .int .i64 x.row.when_] 43)) w.heap.size x := by
    unfold RowAt
    rw [hkz]
    exact Blk.new w 43 #[.int .i64 2, .string x.row.name, .int .i64 x.row.off, .slice x.tA x.row.tags.length x.tc, .slice x.fA x.row.fields.length x.fc, .string x.row.text, .int .i64 x.row.pos, .bool x.row.timed, .string x.row.time, .int .i64 x.row.when_]
  obtain ⟨p, _, hp, kS⟩ := stands_any r c o l k s fv fs t1 true t3 N w0 _ h1 h30
  obtain ⟨g, fc, rfl, rfl, hg⟩ := hp i hi
  have d1 : decide ((60 : Int) < (x.row.name.size : Int)) = false := decide_eq_false (by omega)
  have d1n : decide (60 < x.row.name.size) = false := decide_eq_false (by omega)
  have p1 : decide ((0 : Int) < (X.pts.length : Int)) = false := decide_eq_false (by omega)
  have p1n : decide (0 < X.pts.length) = false := decide_eq_false (by omega)
  have hn1 : (X.name.toList == x.row.name.toList) = true := by rw [ByteArray.toList_eq, ByteArray.toList_eq]; exact hne
  have kF : ∀ W, Ob W r c o l k s (.slice (some ⟨g, 0, none⟩) (i + 1) fc) t1 true t3 N → Calls Tryz.prog 76 #[.pointer (some ⟨r, 0, none⟩), .int .i64 13, .int .i64 (x.row.off : Int)] W fun e w' => e = .returned (.bool false) ∧ Obf w' r 13 x.row.off s (.slice (some ⟨g, 0, none⟩) (i + 1) fc) t1 true t3 N ∧ Aw [r] W w' := fun W h => ofails_any r c o l k s _ t1 true t3 N 13 x.row.off W h hs
  clear h hp
  go_enter Tryz.func81, Tryz.ntmps81
  go_upto_region 4 with (
    (go_at_call 75; (with_reducible refine kS.mono ?_); rintro e w2 ⟨rfl, hA2⟩; have h2 := h1.call hA2; have hR2 := hR.aw hA2 (by simp); obtain ⟨e0, e1, e2⟩ := hR2.facts; rw [hkz] at e0))
  obtain ⟨⟨_, _, _, _, _, _, _, r7, r8, r9, _⟩, _⟩ := h2.rd.facts
  obtain ⟨gq, fq, e1q, _, x4, _⟩ := h2.fams.at_ hX
  injection e1q with e1q e2q e3q
  injection e1q with e1q
  injection e1q with e1q e4q
  clear e2q e4q
  subst e1q e3q
  have x0 := FamsAt.name_ h2.fams hX
  have hS0 : (w2.drew.cell? ⟨w.heap.size, 0, none⟩ = some (.int .i64 2) ∧ w2.drew.cell? ⟨w.heap.size, 1, none⟩ = some (.string x.row.name) ∧ w2.drew.cell? ⟨g, i * 5, none⟩ = some (.string X.name) ∧ w2.drew.cell? ⟨g, i * 5 + 4, none⟩ = some (.slice X.A X.pts.length X.c) ∧ w2.drew.cell? ⟨r, 8, none⟩ = some (.bool true)) ∧ Aw [] w2.drew w2.drew := ⟨⟨e0, e1, x0, x4, r8⟩, Aw.refl [] _⟩
  have HX := Lib.hid hX
  have kK := fun W hA => known_any r c o l k s (.slice (some ⟨g, 0, none⟩) (i + 1) fc) fs t1 true t3 N x.row.name w0 W (h2.drew.call hA) (by omega)
  rw [hkn] at kK
  have HO : Hid (∀ W, Aw [] w2.drew W → OA w0 W r c o l k s (.slice (some ⟨g, 0, none⟩) (i + 1) fc) fs t1 true t3 N) := Lib.hid (fun W hA => h2.drew.call hA)
  have HRB : Hid (∀ W, Aw [] w2.drew W → RowAt W w.heap.size x) := Lib.hid (fun W hA => (hR2.aw (Aw.refl [] w2).drew (by simp)).aw hA (by simp))
  clear kS h1 hR h2 hR2 hA2 e0 e1 e2 x4 x0 r7 r8 r9 hX hkn hne hpt hk
  refine wp_region_held_drew (S := (fun w' => (w'.cell? ⟨w.heap.size, 0, none⟩ = some (.int .i64 2) ∧ w'.cell? ⟨w.heap.size, 1, none⟩ = some (.string x.row.name) ∧ w'.cell? ⟨g, i * 5, none⟩ = some (.string X.name) ∧ w'.cell? ⟨g, i * 5 + 4, none⟩ = some (.slice X.A X.pts.length X.c) ∧ w'.cell? ⟨r, 8, none⟩ = some (.bool true)) ∧ Aw [] w2.drew w')) (by kernel_rfl) ?_ (fun hHeld0 => ?_)
  · (try dsimp only); (first | exact hS0 | assumption)
  refine wpAnyH_take (i := 0) (oi := _) (v := ?_) rfl (by kernel_rfl) (by kernel_rfl) (by kernel_rfl) (fun _ _ _ h => h) (Or.inl ⟨by rfl, ?_⟩) (by assumption) ?_
  rotate_left
  focus ((intro w hSw; (try dsimp only at hSw); go_simp; try with_reducible rfl); done)
  (try simp only [Act.put, List.setIfInBounds_toArray, List.set_cons_zero, List.set_cons_succ, List.getElem_toArray, List.getElem_cons_zero, List.getElem_cons_succ])
  refine wpAnyH_take (i := 1) (oi := _) (v := ?_) rfl (by kernel_rfl) (by kernel_rfl) (by kernel_rfl) (fun _ _ _ h => h) (Or.inl ⟨by rfl, ?_⟩) (by assumption) ?_
  rotate_left
  focus ((intro w hSw; (try dsimp only at hSw); go_simp; try with_reducible rfl); done)
  (try simp only [Act.put, List.setIfInBounds_toArray, List.set_cons_zero, List.set_cons_succ, List.getElem_toArray, List.getElem_cons_zero, List.getElem_cons_succ])
  refine wpAnyH_take (i := 2) (oi := _) (v := ?_) rfl (by kernel_rfl) (by kernel_rfl) (by kernel_rfl) (fun _ _ _ h => h) (Or.inl ⟨by rfl, ?_⟩) (by assumption) ?_
  rotate_left
  focus ((intro w hSw; (try dsimp only at hSw); go_simp; try with_reducible rfl); done)
  (try simp only [Act.put, List.setIfInBounds_toArray, List.set_cons_zero, List.set_cons_succ, List.getElem_toArray, List.getElem_cons_zero, List.getElem_cons_succ])
  refine wpAnyH_ready (rs := [3]) (by kernel_rfl) (by simp) ?_
  refine AllReadyH.cons (o := _) rfl (fun K hK => ?_) AllReadyH.nil
  go_simp
  go_wp2_with (go_at_call 121; (with_reducible refine (kK _ (by first | assumption | exact Aw.refl [] _)).mono ?_); rintro e w3 ⟨rfl, hA3⟩; obtain ⟨_, hcur⟩ := ‹(_ ∧ _) ∧ Aw [] w2.drew _›; have hA4 := hcur.trans hA3; have hS3 := And.intro (And.intro ((HRB.out _ hA4).facts.1.trans (by rw [hkz])) (And.intro (HRB.out _ hA4).facts.2.1 (And.intro (FamsAt.name_ (HO.out _ hA4).fams HX.out) (And.intro (FamsAt.pts_ (HO.out _ hA4).fams HX.out) ((HO.out _ hA4).rd.facts.1.2.2.2.2.2.2.2.2.1))))) hA4)
  refine hK.out _ _ ?_ (fun hHeld1 => ?_)
  · (try dsimp only); (first | exact hS0 | assumption)
  clear hK K
  (try simp only [Act.put, List.setIfInBounds_toArray, List.set_cons_zero, List.set_cons_succ, List.getElem_toArray, List.getElem_cons_zero, List.getElem_cons_succ])
  refine wpAnyH_take (i := 4) (oi := _) (v := ?_) rfl (by kernel_rfl) (by kernel_rfl) (by kernel_rfl) (fun _ _ _ h => h) (Or.inl ⟨by rfl, ?_⟩) (by assumption) ?_
  rotate_left
  focus ((intro w hSw; (try dsimp only at hSw); go_simp; try with_reducible rfl); done)
  (try simp only [Act.put, List.setIfInBounds_toArray, List.set_cons_zero, List.set_cons_succ, List.getElem_toArray, List.getElem_cons_zero, List.getElem_cons_succ])
  refine wpAnyH_take (i := 5) (oi := _) (v := ?_) rfl (by kernel_rfl) (by kernel_rfl) (by kernel_rfl) (fun _ _ _ h => h) (Or.inl ⟨by rfl, ?_⟩) (by assumption) ?_
  rotate_left
  focus ((intro w hSw; (try dsimp only at hSw); go_simp; try with_reducible rfl); done)
  (try simp only [Act.put, List.setIfInBounds_toArray, List.set_cons_zero, List.set_cons_succ, List.getElem_toArray, List.getElem_cons_zero, List.getElem_cons_succ])
  refine wpAnyH_take (i := 10) (oi := _) (v := ?_) rfl (by kernel_rfl) (by kernel_rfl) (by kernel_rfl) (fun _ _ _ h => h) (Or.inl ⟨by rfl, ?_⟩) (by assumption) ?_
  rotate_left
  focus ((intro w hSw; (try dsimp only at hSw); go_simp; try with_reducible rfl); done)
  (try simp only [Act.put, List.setIfInBounds_toArray, List.set_cons_zero, List.set_cons_succ, List.getElem_toArray, List.getElem_cons_zero, List.getElem_cons_succ])
  refine wpAnyH_take (i := 11) (oi := _) (v := ?_) rfl (by kernel_rfl) (by kernel_rfl) (by kernel_rfl) (fun _ _ _ h => h) (Or.inl ⟨by rfl, ?_⟩) (by assumption) ?_
  rotate_left
  focus ((intro w hSw; (try dsimp only at hSw); go_simp; try with_reducible rfl); done)
  (try simp only [Act.put, List.setIfInBounds_toArray, List.set_cons_zero, List.set_cons_succ, List.getElem_toArray, List.getElem_cons_zero, List.getElem_cons_succ])
  refine wpAnyH_ready (rs := [6]) (by kernel_rfl) (by simp) ?_
  refine AllReadyH.cons (o := _) rfl (fun K hK => ?_) AllReadyH.nil
  go_simp
  refine hK.out _ _ ?_ (fun hHeld2 => ?_)
  · (try dsimp only); (first | exact hS0 | assumption)
  clear hK K
  (try simp only [Act.put, List.setIfInBounds_toArray, List.set_cons_zero, List.set_cons_succ, List.getElem_toArray, List.getElem_cons_zero, List.getElem_cons_succ])
  refine wpAnyH_take (i := 7) (oi := _) (v := ?_) rfl (by kernel_rfl) (by kernel_rfl) (by kernel_rfl) (fun _ _ _ h => h) (Or.inl ⟨by rfl, ?_⟩) (by assumption) ?_
  rotate_left
  focus ((intro w hSw; (try dsimp only at hSw); go_simp; try with_reducible rfl); done)
  (try simp only [Act.put, List.setIfInBounds_toArray, List.set_cons_zero, List.set_cons_succ, List.getElem_toArray, List.getElem_cons_zero, List.getElem_cons_succ])
  refine wpAnyH_take (i := 8) (oi := _) (v := ?_) rfl (by kernel_rfl) (by kernel_rfl) (by kernel_rfl) (fun _ _ _ h => h) (Or.inl ⟨by rfl, ?_⟩) (by assumption) ?_
  rotate_left
  focus ((intro w hSw; (try dsimp only at hSw); go_simp; try with_reducible rfl); done)
  (try simp only [Act.put, List.setIfInBounds_toArray, List.set_cons_zero, List.set_cons_succ, List.getElem_toArray, List.getElem_cons_zero, List.getElem_cons_succ])
  refine wpAnyH_take (i := 9) (oi := _) (v := ?_) rfl (by kernel_rfl) (by kernel_rfl) (by kernel_rfl) (fun _ _ _ h => h) (Or.inl ⟨by rfl, ?_⟩) (by assumption) ?_
  rotate_left
  focus ((intro w hSw; (try dsimp only at hSw); go_simp; try with_reducible rfl); done)
  (try simp only [Act.put, List.setIfInBounds_toArray, List.set_cons_zero, List.set_cons_succ, List.getElem_toArray, List.getElem_cons_zero, List.getElem_cons_succ])
  refine wpAnyH_take (i := 12) (oi := _) (v := ?_) rfl (by kernel_rfl) (by kernel_rfl) (by kernel_rfl) (fun _ _ _ h => h) (Or.inl ⟨by rfl, ?_⟩) (by assumption) ?_
  rotate_left
  focus ((intro w hSw; (try dsimp only at hSw); go_simp; try with_reducible rfl); done)
  (try simp only [Act.put, List.setIfInBounds_toArray, List.set_cons_zero, List.set_cons_succ, List.getElem_toArray, List.getElem_cons_zero, List.getElem_cons_succ])
  refine wpAnyH_take (i := 13) (oi := _) (v := ?_) rfl (by kernel_rfl) (by kernel_rfl) (by kernel_rfl) (fun _ _ _ h => h) (Or.inl ⟨by rfl, ?_⟩) (by assumption) ?_
  rotate_left
  focus ((intro w hSw; (try dsimp only at hSw); go_simp; try with_reducible rfl); done)
  (try simp only [Act.put, List.setIfInBounds_toArray, List.set_cons_zero, List.set_cons_succ, List.getElem_toArray, List.getElem_cons_zero, List.getElem_cons_succ])
  refine wpAnyH_take (i := 14) (oi := _) (v := ?_) rfl (by kernel_rfl) (by kernel_rfl) (by kernel_rfl) (fun _ _ _ h => h) (Or.inl ⟨by rfl, ?_⟩) (by assumption) ?_
  rotate_left
  focus ((intro w hSw; (try dsimp only at hSw); go_simp; try with_reducible rfl); done)
  (try simp only [Act.put, List.setIfInBounds_toArray, List.set_cons_zero, List.set_cons_succ, List.getElem_toArray, List.getElem_cons_zero, List.getElem_cons_succ])
  refine wpAnyH_ready (rs := [15]) (by kernel_rfl) (by simp) ?_
  refine AllReadyH.cons (o := _) rfl (fun K hK => ?_) AllReadyH.nil
  go_simp
  refine hK.out _ _ ?_ (fun hHeld3 => ?_)
  · (try dsimp only); (first | exact hS0 | assumption)
  clear hK K
  (try simp only [Act.put, List.setIfInBounds_toArray, List.set_cons_zero, List.set_cons_succ, List.getElem_toArray, List.getElem_cons_zero, List.getElem_cons_succ])
  refine wpAnyH_take (i := 16) (oi := _) (v := ?_) rfl (by kernel_rfl) (by kernel_rfl) (by kernel_rfl) (fun _ _ _ h => h) (Or.inl ⟨by rfl, ?_⟩) (by assumption) ?_
  rotate_left
  focus ((intro w hSw; (try dsimp only at hSw); go_simp; try with_reducible rfl); done)
  (try simp only [Act.put, List.setIfInBounds_toArray, List.set_cons_zero, List.set_cons_succ, List.getElem_toArray, List.getElem_cons_zero, List.getElem_cons_succ])
  refine wpAnyH_take (i := 17) (oi := _) (v := ?_) rfl (by kernel_rfl) (by kernel_rfl) (by kernel_rfl) (fun _ _ _ h => h) (Or.inl ⟨by rfl, ?_⟩) (by assumption) ?_
  rotate_left
  focus ((intro w hSw; (try dsimp only at hSw); go_simp; try with_reducible rfl); done)
  (try simp only [Act.put, List.setIfInBounds_toArray, List.set_cons_zero, List.set_cons_succ, List.getElem_toArray, List.getElem_cons_zero, List.getElem_cons_succ])
  refine wpAnyH_take (i := 18) (oi := _) (v := ?_) rfl (by kernel_rfl) (by kernel_rfl) (by kernel_rfl) (fun _ _ _ h => h) (Or.inl ⟨by rfl, ?_⟩) (by assumption) ?_
  rotate_left
  focus ((intro w hSw; (try dsimp only at hSw); go_simp; try with_reducible rfl); done)
  (try simp only [Act.put, List.setIfInBounds_toArray, List.set_cons_zero, List.set_cons_succ, List.getElem_toArray, List.getElem_cons_zero, List.getElem_cons_succ])
  refine wpAnyH_take (i := 19) (oi := _) (v := ?_) rfl (by kernel_rfl) (by kernel_rfl) (by kernel_rfl) (fun _ _ _ h => h) (Or.inl ⟨by rfl, ?_⟩) (by assumption) ?_
  rotate_left
  focus ((intro w hSw; (try dsimp only at hSw); go_simp; try with_reducible rfl); done)
  (try simp only [Act.put, List.setIfInBounds_toArray, List.set_cons_zero, List.set_cons_succ, List.getElem_toArray, List.getElem_cons_zero, List.getElem_cons_succ])
  refine wpAnyH_take (i := 20) (oi := _) (v := ?_) rfl (by kernel_rfl) (by kernel_rfl) (by kernel_rfl) (fun _ _ _ h => h) (Or.inl ⟨by rfl, ?_⟩) (by assumption) ?_
  rotate_left
  focus ((intro w hSw; (try dsimp only at hSw); go_simp; try with_reducible rfl); done)
  (try simp only [Act.put, List.setIfInBounds_toArray, List.set_cons_zero, List.set_cons_succ, List.getElem_toArray, List.getElem_cons_zero, List.getElem_cons_succ])
  refine wpAnyH_take (i := 21) (oi := _) (v := ?_) rfl (by kernel_rfl) (by kernel_rfl) (by kernel_rfl) (fun _ _ _ h => h) (Or.inl ⟨by rfl, ?_⟩) (by assumption) ?_
  rotate_left
  focus ((intro w hSw; (try dsimp only at hSw); go_simp; try with_reducible rfl); done)
  (try simp only [Act.put, List.setIfInBounds_toArray, List.set_cons_zero, List.set_cons_succ, List.getElem_toArray, List.getElem_cons_zero, List.getElem_cons_succ])
  refine wpAnyH_take (i := 22) (oi := _) (v := ?_) rfl (by kernel_rfl) (by kernel_rfl) (by kernel_rfl) (fun _ _ _ h => h) (Or.inl ⟨by rfl, ?_⟩) (by assumption) ?_
  rotate_left
  focus ((intro w hSw; (try dsimp only at hSw); go_simp; try with_reducible rfl); done)
  (try simp only [Act.put, List.setIfInBounds_toArray, List.set_cons_zero, List.set_cons_succ, List.getElem_toArray, List.getElem_cons_zero, List.getElem_cons_succ])
  refine wpAnyH_take (i := 23) (oi := _) (v := ?_) rfl (by kernel_rfl) (by kernel_rfl) (by kernel_rfl) (fun _ _ _ h => h) (Or.inl ⟨by rfl, ?_⟩) (by assumption) ?_
  rotate_left
  focus ((intro w hSw; (try dsimp only at hSw); go_simp; try with_reducible rfl); done)
  (try simp only [Act.put, List.setIfInBounds_toArray, List.set_cons_zero, List.set_cons_succ, List.getElem_toArray, List.getElem_cons_zero, List.getElem_cons_succ])
  refine wpAnyH_take (i := 24) (oi := _) (v := ?_) rfl (by kernel_rfl) (by kernel_rfl) (by kernel_rfl) (fun _ _ _ h => h) (Or.inl ⟨by rfl, ?_⟩) (by assumption) ?_
  rotate_left
  focus ((intro w hSw; (try dsimp only at hSw); go_simp; try with_reducible rfl); done)
  (try simp only [Act.put, List.setIfInBounds_toArray, List.set_cons_zero, List.set_cons_succ, List.getElem_toArray, List.getElem_cons_zero, List.getElem_cons_succ])
  refine wpAnyH_ready (rs := [25]) (by kernel_rfl) (by simp) ?_
  refine AllReadyH.cons (o := _) rfl (fun K hK => ?_) AllReadyH.nil
  go_simp
  refine hK.out _ _ ?_ (fun hHeld4 => ?_)
  · (try dsimp only); (first | exact hS0 | assumption)
  clear hK K
  (try simp only [Act.put, List.setIfInBounds_toArray, List.set_cons_zero, List.set_cons_succ, List.getElem_toArray, List.getElem_cons_zero, List.getElem_cons_succ])
  refine wpAnyH_take (i := 26) (oi := _) (v := ?_) rfl (by kernel_rfl) (by kernel_rfl) (by kernel_rfl) (fun _ _ _ h => h) (Or.inl ⟨by rfl, ?_⟩) (by assumption) ?_
  rotate_left
  focus ((intro w hSw; (try dsimp only at hSw); go_simp; try with_reducible rfl); done)
  (try simp only [Act.put, List.setIfInBounds_toArray, List.set_cons_zero, List.set_cons_succ, List.getElem_toArray, List.getElem_cons_zero, List.getElem_cons_succ])
  refine wpAnyH_take (i := 27) (oi := _) (v := ?_) rfl (by kernel_rfl) (by kernel_rfl) (by kernel_rfl) (fun _ _ _ h => h) (Or.inl ⟨by rfl, ?_⟩) (by assumption) ?_
  rotate_left
  focus ((intro w hSw; (try dsimp only at hSw); go_simp; try with_reducible rfl); done)
  (try simp only [Act.put, List.setIfInBounds_toArray, List.set_cons_zero, List.set_cons_succ, List.getElem_toArray, List.getElem_cons_zero, List.getElem_cons_succ])
  refine wpAnyH_take (i := 28) (oi := _) (v := ?_) rfl (by kernel_rfl) (by kernel_rfl) (by kernel_rfl) (fun _ _ _ h => h) (Or.inl ⟨by rfl, ?_⟩) (by assumption) ?_
  rotate_left
  focus ((intro w hSw; (try dsimp only at hSw); go_simp; try with_reducible rfl); done)
  (try simp only [Act.put, List.setIfInBounds_toArray, List.set_cons_zero, List.set_cons_succ, List.getElem_toArray, List.getElem_cons_zero, List.getElem_cons_succ])
  refine wpAnyH_take (i := 29) (oi := _) (v := ?_) rfl (by kernel_rfl) (by kernel_rfl) (by kernel_rfl) (fun _ _ _ h => h) (Or.inl ⟨by rfl, ?_⟩) (by assumption) ?_
  rotate_left
  focus ((intro w hSw; (try dsimp only at hSw); go_simp; try with_reducible rfl); done)
  (try simp only [Act.put, List.setIfInBounds_toArray, List.set_cons_zero, List.set_cons_succ, List.getElem_toArray, List.getElem_cons_zero, List.getElem_cons_succ])
  refine wpAnyH_take (i := 30) (oi := _) (v := ?_) rfl (by kernel_rfl) (by kernel_rfl) (by kernel_rfl) (fun _ _ _ h => h) (Or.inl ⟨by rfl, ?_⟩) (by assumption) ?_
  rotate_left
  focus ((intro w hSw; (try dsimp only at hSw); go_simp; try with_reducible rfl); done)
  (try simp only [Act.put, List.setIfInBounds_toArray, List.set_cons_zero, List.set_cons_succ, List.getElem_toArray, List.getElem_cons_zero, List.getElem_cons_succ])
  refine wpAnyH_take (i := 31) (oi := _) (v := ?_) rfl (by kernel_rfl) (by kernel_rfl) (by kernel_rfl) (fun _ _ _ h => h) (Or.inl ⟨by rfl, ?_⟩) (by assumption) ?_
  rotate_left
  focus ((intro w hSw; (try dsimp only at hSw); go_simp; try with_reducible rfl); done)
  (try simp only [Act.put, List.setIfInBounds_toArray, List.set_cons_zero, List.set_cons_succ, List.getElem_toArray, List.getElem_cons_zero, List.getElem_cons_succ])
  refine wpAnyH_done (by kernel_rfl) ?_ _
  have hAe := hHeld2.2
  obtain ⟨e0, e1, e2⟩ := (HRB.out _ hAe).facts
  have hRd := (HO.out _ hAe).rd
  go_wp2_with (go_at_call 76; (with_reducible refine (kF _ hRd).mono ?_); rintro e w4 ⟨rfl, h4, hA5⟩)
  go_ret
  exact ⟨rfl, ⟨_, _, _, _, _, h4⟩, (HO.out _ hAe).aw.trans hA5⟩
set_option maxRecDepth 100000 in
set_option maxHeartbeats 6400000 in
theorem named_told3 (r : Nat) (c o l k : Int) (s : ByteArray) (fv : Value) (fs : List VFam) (t1 t2 t3 : Bool) (N i : Nat) (x : VRow) (X : VFam) (w0 w : World) (h : OA w0 w r c o l k s fv fs t1 t2 t3 N) (hs : s.size ≤ 1048576) (h30 : fs.length ≤ 31) (hx : x.row.name.size ≤ 60)
    (hi : fs.length = i + 1) (hX : fs[i]? = some X) (hkn : knownO (fs.map VFam.fam) x.row.name.data.toList = true) (hne : (X.name.data.toList == x.row.name.data.toList) = true) (hpt : X.pts.length = 0) (hk : x.row.kind = 3) (ht : t3 = true) (hpl : X.pts.length ≤ 120) :
    Calls Tryz.prog 81 #[.pointer (some ⟨r, 0, none⟩), .agg #[.int .i64 x.row.kind, .string x.row.name, .int .i64 x.row.off, .slice x.tA x.row.tags.length x.tc, .slice x.fA x.row.fields.length x.fc, .string x.row.text, .int .i64 x.row.pos, .bool x.row.timed, .string x.row.time, .int .i64 x.row.when_]] w fun e w' => e = .returned (.bool false) ∧ (∃ fv t1 t2 t3 N, Obf w' r 13 x.row.off s fv t1 t2 t3 N) ∧ Aw [r] w0 w' := by
  subst ht
  have hkz : (x.row.kind : Int) = 3 := by rw [hk]; rfl
  rw [hkz]
  have h1 := h.alloc (.cells #[.int .i64 3, .string x.row.name, .int .i64 x.row.off, .slice x.tA x.row.tags.length x.tc, .slice x.fA x.row.fields.length x.fc, .string x.row.text, .int .i64 x.row.pos, .bool x.row.timed, .string x.row.time, .int .i64 x.row.when_] 43)
  have hR : RowAt (w.alloc (.cells #[.int .i64 3, .string x.row.name, .int .i64 x.row.off, .slice x.tA x.row.tags.length x.tc, .slice x.fA x.row.fields.length x.fc, .string x.row.text, .int .i64 x.row.pos, .bool x.row.timed, .string x.row.time, .int .i64 x.row.when_] 43)) w.heap.size x := by
    unfold RowAt
    rw [hkz]
    exact Blk.new w 43 #[.int .i64 3, .string x.row.name, .int .i64 x.row.off, .slice x.tA x.row.tags.length x.tc, .slice x.fA x.row.fields.length x.fc, .string x.row.text, .int .i64 x.row.pos, .bool x.row.timed, .string x.row.time, .int .i64 x.row.when_]
  obtain ⟨p, _, hp, kS⟩ := stands_any r c o l k s fv fs t1 t2 true N w0 _ h1 h30
  obtain ⟨g, fc, rfl, rfl, hg⟩ := hp i hi
  have d1 : decide ((60 : Int) < (x.row.name.size : Int)) = false := decide_eq_false (by omega)
  have d1n : decide (60 < x.row.name.size) = false := decide_eq_false (by omega)
  have p1 : decide ((0 : Int) < (X.pts.length : Int)) = false := decide_eq_false (by omega)
  have p1n : decide (0 < X.pts.length) = false := decide_eq_false (by omega)
  have hn1 : (X.name.toList == x.row.name.toList) = true := by rw [ByteArray.toList_eq, ByteArray.toList_eq]; exact hne
  have kF : ∀ W, Ob W r c o l k s (.slice (some ⟨g, 0, none⟩) (i + 1) fc) t1 t2 true N → Calls Tryz.prog 76 #[.pointer (some ⟨r, 0, none⟩), .int .i64 13, .int .i64 (x.row.off : Int)] W fun e w' => e = .returned (.bool false) ∧ Obf w' r 13 x.row.off s (.slice (some ⟨g, 0, none⟩) (i + 1) fc) t1 t2 true N ∧ Aw [r] W w' := fun W h => ofails_any r c o l k s _ t1 t2 true N 13 x.row.off W h hs
  clear h hp
  go_enter Tryz.func81, Tryz.ntmps81
  go_upto_region 4 with (
    (go_at_call 75; (with_reducible refine kS.mono ?_); rintro e w2 ⟨rfl, hA2⟩; have h2 := h1.call hA2; have hR2 := hR.aw hA2 (by simp); obtain ⟨e0, e1, e2⟩ := hR2.facts; rw [hkz] at e0))
  obtain ⟨⟨_, _, _, _, _, _, _, r7, r8, r9, _⟩, _⟩ := h2.rd.facts
  obtain ⟨gq, fq, e1q, _, x4, _⟩ := h2.fams.at_ hX
  injection e1q with e1q e2q e3q
  injection e1q with e1q
  injection e1q with e1q e4q
  clear e2q e4q
  subst e1q e3q
  have x0 := FamsAt.name_ h2.fams hX
  have hS0 : (w2.drew.cell? ⟨w.heap.size, 0, none⟩ = some (.int .i64 3) ∧ w2.drew.cell? ⟨w.heap.size, 1, none⟩ = some (.string x.row.name) ∧ w2.drew.cell? ⟨g, i * 5, none⟩ = some (.string X.name) ∧ w2.drew.cell? ⟨g, i * 5 + 4, none⟩ = some (.slice X.A X.pts.length X.c) ∧ w2.drew.cell? ⟨r, 9, none⟩ = some (.bool true)) ∧ Aw [] w2.drew w2.drew := ⟨⟨e0, e1, x0, x4, r9⟩, Aw.refl [] _⟩
  have HX := Lib.hid hX
  have kK := fun W hA => known_any r c o l k s (.slice (some ⟨g, 0, none⟩) (i + 1) fc) fs t1 t2 true N x.row.name w0 W (h2.drew.call hA) (by omega)
  rw [hkn] at kK
  have HO : Hid (∀ W, Aw [] w2.drew W → OA w0 W r c o l k s (.slice (some ⟨g, 0, none⟩) (i + 1) fc) fs t1 t2 true N) := Lib.hid (fun W hA => h2.drew.call hA)
  have HRB : Hid (∀ W, Aw [] w2.drew W → RowAt W w.heap.size x) := Lib.hid (fun W hA => (hR2.aw (Aw.refl [] w2).drew (by simp)).aw hA (by simp))
  clear kS h1 hR h2 hR2 hA2 e0 e1 e2 x4 x0 r7 r8 r9 hX hkn hne hpt hk
  refine wp_region_held_drew (S := (fun w' => (w'.cell? ⟨w.heap.size, 0, none⟩ = some (.int .i64 3) ∧ w'.cell? ⟨w.heap.size, 1, none⟩ = some (.string x.row.name) ∧ w'.cell? ⟨g, i * 5, none⟩ = some (.string X.name) ∧ w'.cell? ⟨g, i * 5 + 4, none⟩ = some (.slice X.A X.pts.length X.c) ∧ w'.cell? ⟨r, 9, none⟩ = some (.bool true)) ∧ Aw [] w2.drew w')) (by kernel_rfl) ?_ (fun hHeld0 => ?_)
  · (try dsimp only); (first | exact hS0 | assumption)
  refine wpAnyH_take (i := 0) (oi := _) (v := ?_) rfl (by kernel_rfl) (by kernel_rfl) (by kernel_rfl) (fun _ _ _ h => h) (Or.inl ⟨by rfl, ?_⟩) (by assumption) ?_
  rotate_left
  focus ((intro w hSw; (try dsimp only at hSw); go_simp; try with_reducible rfl); done)
  (try simp only [Act.put, List.setIfInBounds_toArray, List.set_cons_zero, List.set_cons_succ, List.getElem_toArray, List.getElem_cons_zero, List.getElem_cons_succ])
  refine wpAnyH_take (i := 1) (oi := _) (v := ?_) rfl (by kernel_rfl) (by kernel_rfl) (by kernel_rfl) (fun _ _ _ h => h) (Or.inl ⟨by rfl, ?_⟩) (by assumption) ?_
  rotate_left
  focus ((intro w hSw; (try dsimp only at hSw); go_simp; try with_reducible rfl); done)
  (try simp only [Act.put, List.setIfInBounds_toArray, List.set_cons_zero, List.set_cons_succ, List.getElem_toArray, List.getElem_cons_zero, List.getElem_cons_succ])
  refine wpAnyH_take (i := 2) (oi := _) (v := ?_) rfl (by kernel_rfl) (by kernel_rfl) (by kernel_rfl) (fun _ _ _ h => h) (Or.inl ⟨by rfl, ?_⟩) (by assumption) ?_
  rotate_left
  focus ((intro w hSw; (try dsimp only at hSw); go_simp; try with_reducible rfl); done)
  (try simp only [Act.put, List.setIfInBounds_toArray, List.set_cons_zero, List.set_cons_succ, List.getElem_toArray, List.getElem_cons_zero, List.getElem_cons_succ])
  refine wpAnyH_ready (rs := [3]) (by kernel_rfl) (by simp) ?_
  refine AllReadyH.cons (o := _) rfl (fun K hK => ?_) AllReadyH.nil
  go_simp
  go_wp2_with (go_at_call 121; (with_reducible refine (kK _ (by first | assumption | exact Aw.refl [] _)).mono ?_); rintro e w3 ⟨rfl, hA3⟩; obtain ⟨_, hcur⟩ := ‹(_ ∧ _) ∧ Aw [] w2.drew _›; have hA4 := hcur.trans hA3; have hS3 := And.intro (And.intro ((HRB.out _ hA4).facts.1.trans (by rw [hkz])) (And.intro (HRB.out _ hA4).facts.2.1 (And.intro (FamsAt.name_ (HO.out _ hA4).fams HX.out) (And.intro (FamsAt.pts_ (HO.out _ hA4).fams HX.out) ((HO.out _ hA4).rd.facts.1.2.2.2.2.2.2.2.2.2.1))))) hA4)
  refine hK.out _ _ ?_ (fun hHeld1 => ?_)
  · (try dsimp only); (first | exact hS0 | assumption)
  clear hK K
  (try simp only [Act.put, List.setIfInBounds_toArray, List.set_cons_zero, List.set_cons_succ, List.getElem_toArray, List.getElem_cons_zero, List.getElem_cons_succ])
  refine wpAnyH_take (i := 4) (oi := _) (v := ?_) rfl (by kernel_rfl) (by kernel_rfl) (by kernel_rfl) (fun _ _ _ h => h) (Or.inl ⟨by rfl, ?_⟩) (by assumption) ?_
  rotate_left
  focus ((intro w hSw; (try dsimp only at hSw); go_simp; try with_reducible rfl); done)
  (try simp only [Act.put, List.setIfInBounds_toArray, List.set_cons_zero, List.set_cons_succ, List.getElem_toArray, List.getElem_cons_zero, List.getElem_cons_succ])
  refine wpAnyH_take (i := 5) (oi := _) (v := ?_) rfl (by kernel_rfl) (by kernel_rfl) (by kernel_rfl) (fun _ _ _ h => h) (Or.inl ⟨by rfl, ?_⟩) (by assumption) ?_
  rotate_left
  focus ((intro w hSw; (try dsimp only at hSw); go_simp; try with_reducible rfl); done)
  (try simp only [Act.put, List.setIfInBounds_toArray, List.set_cons_zero, List.set_cons_succ, List.getElem_toArray, List.getElem_cons_zero, List.getElem_cons_succ])
  refine wpAnyH_take (i := 10) (oi := _) (v := ?_) rfl (by kernel_rfl) (by kernel_rfl) (by kernel_rfl) (fun _ _ _ h => h) (Or.inl ⟨by rfl, ?_⟩) (by assumption) ?_
  rotate_left
  focus ((intro w hSw; (try dsimp only at hSw); go_simp; try with_reducible rfl); done)
  (try simp only [Act.put, List.setIfInBounds_toArray, List.set_cons_zero, List.set_cons_succ, List.getElem_toArray, List.getElem_cons_zero, List.getElem_cons_succ])
  refine wpAnyH_take (i := 11) (oi := _) (v := ?_) rfl (by kernel_rfl) (by kernel_rfl) (by kernel_rfl) (fun _ _ _ h => h) (Or.inl ⟨by rfl, ?_⟩) (by assumption) ?_
  rotate_left
  focus ((intro w hSw; (try dsimp only at hSw); go_simp; try with_reducible rfl); done)
  (try simp only [Act.put, List.setIfInBounds_toArray, List.set_cons_zero, List.set_cons_succ, List.getElem_toArray, List.getElem_cons_zero, List.getElem_cons_succ])
  refine wpAnyH_ready (rs := [6]) (by kernel_rfl) (by simp) ?_
  refine AllReadyH.cons (o := _) rfl (fun K hK => ?_) AllReadyH.nil
  go_simp
  refine hK.out _ _ ?_ (fun hHeld2 => ?_)
  · (try dsimp only); (first | exact hS0 | assumption)
  clear hK K
  (try simp only [Act.put, List.setIfInBounds_toArray, List.set_cons_zero, List.set_cons_succ, List.getElem_toArray, List.getElem_cons_zero, List.getElem_cons_succ])
  refine wpAnyH_take (i := 7) (oi := _) (v := ?_) rfl (by kernel_rfl) (by kernel_rfl) (by kernel_rfl) (fun _ _ _ h => h) (Or.inl ⟨by rfl, ?_⟩) (by assumption) ?_
  rotate_left
  focus ((intro w hSw; (try dsimp only at hSw); go_simp; try with_reducible rfl); done)
  (try simp only [Act.put, List.setIfInBounds_toArray, List.set_cons_zero, List.set_cons_succ, List.getElem_toArray, List.getElem_cons_zero, List.getElem_cons_succ])
  refine wpAnyH_take (i := 8) (oi := _) (v := ?_) rfl (by kernel_rfl) (by kernel_rfl) (by kernel_rfl) (fun _ _ _ h => h) (Or.inl ⟨by rfl, ?_⟩) (by assumption) ?_
  rotate_left
  focus ((intro w hSw; (try dsimp only at hSw); go_simp; try with_reducible rfl); done)
  (try simp only [Act.put, List.setIfInBounds_toArray, List.set_cons_zero, List.set_cons_succ, List.getElem_toArray, List.getElem_cons_zero, List.getElem_cons_succ])
  refine wpAnyH_take (i := 9) (oi := _) (v := ?_) rfl (by kernel_rfl) (by kernel_rfl) (by kernel_rfl) (fun _ _ _ h => h) (Or.inl ⟨by rfl, ?_⟩) (by assumption) ?_
  rotate_left
  focus ((intro w hSw; (try dsimp only at hSw); go_simp; try with_reducible rfl); done)
  (try simp only [Act.put, List.setIfInBounds_toArray, List.set_cons_zero, List.set_cons_succ, List.getElem_toArray, List.getElem_cons_zero, List.getElem_cons_succ])
  refine wpAnyH_take (i := 12) (oi := _) (v := ?_) rfl (by kernel_rfl) (by kernel_rfl) (by kernel_rfl) (fun _ _ _ h => h) (Or.inl ⟨by rfl, ?_⟩) (by assumption) ?_
  rotate_left
  focus ((intro w hSw; (try dsimp only at hSw); go_simp; try with_reducible rfl); done)
  (try simp only [Act.put, List.setIfInBounds_toArray, List.set_cons_zero, List.set_cons_succ, List.getElem_toArray, List.getElem_cons_zero, List.getElem_cons_succ])
  refine wpAnyH_take (i := 13) (oi := _) (v := ?_) rfl (by kernel_rfl) (by kernel_rfl) (by kernel_rfl) (fun _ _ _ h => h) (Or.inl ⟨by rfl, ?_⟩) (by assumption) ?_
  rotate_left
  focus ((intro w hSw; (try dsimp only at hSw); go_simp; try with_reducible rfl); done)
  (try simp only [Act.put, List.setIfInBounds_toArray, List.set_cons_zero, List.set_cons_succ, List.getElem_toArray, List.getElem_cons_zero, List.getElem_cons_succ])
  refine wpAnyH_take (i := 14) (oi := _) (v := ?_) rfl (by kernel_rfl) (by kernel_rfl) (by kernel_rfl) (fun _ _ _ h => h) (Or.inl ⟨by rfl, ?_⟩) (by assumption) ?_
  rotate_left
  focus ((intro w hSw; (try dsimp only at hSw); go_simp; try with_reducible rfl); done)
  (try simp only [Act.put, List.setIfInBounds_toArray, List.set_cons_zero, List.set_cons_succ, List.getElem_toArray, List.getElem_cons_zero, List.getElem_cons_succ])
  refine wpAnyH_ready (rs := [15]) (by kernel_rfl) (by simp) ?_
  refine AllReadyH.cons (o := _) rfl (fun K hK => ?_) AllReadyH.nil
  go_simp
  refine hK.out _ _ ?_ (fun hHeld3 => ?_)
  · (try dsimp only); (first | exact hS0 | assumption)
  clear hK K
  (try simp only [Act.put, List.setIfInBounds_toArray, List.set_cons_zero, List.set_cons_succ, List.getElem_toArray, List.getElem_cons_zero, List.getElem_cons_succ])
  refine wpAnyH_take (i := 16) (oi := _) (v := ?_) rfl (by kernel_rfl) (by kernel_rfl) (by kernel_rfl) (fun _ _ _ h => h) (Or.inl ⟨by rfl, ?_⟩) (by assumption) ?_
  rotate_left
  focus ((intro w hSw; (try dsimp only at hSw); go_simp; try with_reducible rfl); done)
  (try simp only [Act.put, List.setIfInBounds_toArray, List.set_cons_zero, List.set_cons_succ, List.getElem_toArray, List.getElem_cons_zero, List.getElem_cons_succ])
  refine wpAnyH_take (i := 17) (oi := _) (v := ?_) rfl (by kernel_rfl) (by kernel_rfl) (by kernel_rfl) (fun _ _ _ h => h) (Or.inl ⟨by rfl, ?_⟩) (by assumption) ?_
  rotate_left
  focus ((intro w hSw; (try dsimp only at hSw); go_simp; try with_reducible rfl); done)
  (try simp only [Act.put, List.setIfInBounds_toArray, List.set_cons_zero, List.set_cons_succ, List.getElem_toArray, List.getElem_cons_zero, List.getElem_cons_succ])
  refine wpAnyH_take (i := 18) (oi := _) (v := ?_) rfl (by kernel_rfl) (by kernel_rfl) (by kernel_rfl) (fun _ _ _ h => h) (Or.inl ⟨by rfl, ?_⟩) (by assumption) ?_
  rotate_left
  focus ((intro w hSw; (try dsimp only at hSw); go_simp; try with_reducible rfl); done)
  (try simp only [Act.put, List.setIfInBounds_toArray, List.set_cons_zero, List.set_cons_succ, List.getElem_toArray, List.getElem_cons_zero, List.getElem_cons_succ])
  refine wpAnyH_take (i := 19) (oi := _) (v := ?_) rfl (by kernel_rfl) (by kernel_rfl) (by kernel_rfl) (fun _ _ _ h => h) (Or.inl ⟨by rfl, ?_⟩) (by assumption) ?_
  rotate_left
  focus ((intro w hSw; (try dsimp only at hSw); go_simp; try with_reducible rfl); done)
  (try simp only [Act.put, List.setIfInBounds_toArray, List.set_cons_zero, List.set_cons_succ, List.getElem_toArray, List.getElem_cons_zero, List.getElem_cons_succ])
  refine wpAnyH_take (i := 20) (oi := _) (v := ?_) rfl (by kernel_rfl) (by kernel_rfl) (by kernel_rfl) (fun _ _ _ h => h) (Or.inl ⟨by rfl, ?_⟩) (by assumption) ?_
  rotate_left
  focus ((intro w hSw; (try dsimp only at hSw); go_simp; try with_reducible rfl); done)
  (try simp only [Act.put, List.setIfInBounds_toArray, List.set_cons_zero, List.set_cons_succ, List.getElem_toArray, List.getElem_cons_zero, List.getElem_cons_succ])
  refine wpAnyH_take (i := 21) (oi := _) (v := ?_) rfl (by kernel_rfl) (by kernel_rfl) (by kernel_rfl) (fun _ _ _ h => h) (Or.inl ⟨by rfl, ?_⟩) (by assumption) ?_
  rotate_left
  focus ((intro w hSw; (try dsimp only at hSw); go_simp; try with_reducible rfl); done)
  (try simp only [Act.put, List.setIfInBounds_toArray, List.set_cons_zero, List.set_cons_succ, List.getElem_toArray, List.getElem_cons_zero, List.getElem_cons_succ])
  refine wpAnyH_take (i := 22) (oi := _) (v := ?_) rfl (by kernel_rfl) (by kernel_rfl) (by kernel_rfl) (fun _ _ _ h => h) (Or.inl ⟨by rfl, ?_⟩) (by assumption) ?_
  rotate_left
  focus ((intro w hSw; (try dsimp only at hSw); go_simp; try with_reducible rfl); done)
  (try simp only [Act.put, List.setIfInBounds_toArray, List.set_cons_zero, List.set_cons_succ, List.getElem_toArray, List.getElem_cons_zero, List.getElem_cons_succ])
  refine wpAnyH_take (i := 23) (oi := _) (v := ?_) rfl (by kernel_rfl) (by kernel_rfl) (by kernel_rfl) (fun _ _ _ h => h) (Or.inl ⟨by rfl, ?_⟩) (by assumption) ?_
  rotate_left
  focus ((intro w hSw; (try dsimp only at hSw); go_simp; try with_reducible rfl); done)
  (try simp only [Act.put, List.setIfInBounds_toArray, List.set_cons_zero, List.set_cons_succ, List.getElem_toArray, List.getElem_cons_zero, List.getElem_cons_succ])
  refine wpAnyH_take (i := 24) (oi := _) (v := ?_) rfl (by kernel_rfl) (by kernel_rfl) (by kernel_rfl) (fun _ _ _ h => h) (Or.inl ⟨by rfl, ?_⟩) (by assumption) ?_
  rotate_left
  focus ((intro w hSw; (try dsimp only at hSw); go_simp; try with_reducible rfl); done)
  (try simp only [Act.put, List.setIfInBounds_toArray, List.set_cons_zero, List.set_cons_succ, List.getElem_toArray, List.getElem_cons_zero, List.getElem_cons_succ])
  refine wpAnyH_ready (rs := [25]) (by kernel_rfl) (by simp) ?_
  refine AllReadyH.cons (o := _) rfl (fun K hK => ?_) AllReadyH.nil
  go_simp
  refine hK.out _ _ ?_ (fun hHeld4 => ?_)
  · (try dsimp only); (first | exact hS0 | assumption)
  clear hK K
  (try simp only [Act.put, List.setIfInBounds_toArray, List.set_cons_zero, List.set_cons_succ, List.getElem_toArray, List.getElem_cons_zero, List.getElem_cons_succ])
  refine wpAnyH_take (i := 26) (oi := _) (v := ?_) rfl (by kernel_rfl) (by kernel_rfl) (by kernel_rfl) (fun _ _ _ h => h) (Or.inl ⟨by rfl, ?_⟩) (by assumption) ?_
  rotate_left
  focus ((intro w hSw; (try dsimp only at hSw); go_simp; try with_reducible rfl); done)
  (try simp only [Act.put, List.setIfInBounds_toArray, List.set_cons_zero, List.set_cons_succ, List.getElem_toArray, List.getElem_cons_zero, List.getElem_cons_succ])
  refine wpAnyH_take (i := 27) (oi := _) (v := ?_) rfl (by kernel_rfl) (by kernel_rfl) (by kernel_rfl) (fun _ _ _ h => h) (Or.inl ⟨by rfl, ?_⟩) (by assumption) ?_
  rotate_left
  focus ((intro w hSw; (try dsimp only at hSw); go_simp; try with_reducible rfl); done)
  (try simp only [Act.put, List.setIfInBounds_toArray, List.set_cons_zero, List.set_cons_succ, List.getElem_toArray, List.getElem_cons_zero, List.getElem_cons_succ])
  refine wpAnyH_take (i := 28) (oi := _) (v := ?_) rfl (by kernel_rfl) (by kernel_rfl) (by kernel_rfl) (fun _ _ _ h => h) (Or.inl ⟨by rfl, ?_⟩) (by assumption) ?_
  rotate_left
  focus ((intro w hSw; (try dsimp only at hSw); go_simp; try with_reducible rfl); done)
  (try simp only [Act.put, List.setIfInBounds_toArray, List.set_cons_zero, List.set_cons_succ, List.getElem_toArray, List.getElem_cons_zero, List.getElem_cons_succ])
  refine wpAnyH_take (i := 29) (oi := _) (v := ?_) rfl (by kernel_rfl) (by kernel_rfl) (by kernel_rfl) (fun _ _ _ h => h) (Or.inl ⟨by rfl, ?_⟩) (by assumption) ?_
  rotate_left
  focus ((intro w hSw; (try dsimp only at hSw); go_simp; try with_reducible rfl); done)
  (try simp only [Act.put, List.setIfInBounds_toArray, List.set_cons_zero, List.set_cons_succ, List.getElem_toArray, List.getElem_cons_zero, List.getElem_cons_succ])
  refine wpAnyH_take (i := 30) (oi := _) (v := ?_) rfl (by kernel_rfl) (by kernel_rfl) (by kernel_rfl) (fun _ _ _ h => h) (Or.inl ⟨by rfl, ?_⟩) (by assumption) ?_
  rotate_left
  focus ((intro w hSw; (try dsimp only at hSw); go_simp; try with_reducible rfl); done)
  (try simp only [Act.put, List.setIfInBounds_toArray, List.set_cons_zero, List.set_cons_succ, List.getElem_toArray, List.getElem_cons_zero, List.getElem_cons_succ])
  refine wpAnyH_take (i := 31) (oi := _) (v := ?_) rfl (by kernel_rfl) (by kernel_rfl) (by kernel_rfl) (fun _ _ _ h => h) (Or.inl ⟨by rfl, ?_⟩) (by assumption) ?_
  rotate_left
  focus ((intro w hSw; (try dsimp only at hSw); go_simp; try with_reducible rfl); done)
  (try simp only [Act.put, List.setIfInBounds_toArray, List.set_cons_zero, List.set_cons_succ, List.getElem_toArray, List.getElem_cons_zero, List.getElem_cons_succ])
  refine wpAnyH_done (by kernel_rfl) ?_ _
  have hAe := hHeld2.2
  obtain ⟨e0, e1, e2⟩ := (HRB.out _ hAe).facts
  have hRd := (HO.out _ hAe).rd
  go_wp2_with (go_at_call 76; (with_reducible refine (kF _ hRd).mono ?_); rintro e w4 ⟨rfl, h4, hA5⟩)
  go_ret
  exact ⟨rfl, ⟨_, _, _, _, _, h4⟩, (HO.out _ hAe).aw.trans hA5⟩
end
section
set_option maxRecDepth 100000 in
set_option maxHeartbeats 6400000 in
theorem named_tell1 (r : Nat) (c o l k : Int) (s : ByteArray) (fv : Value) (fs : List VFam) (t1 t2 t3 : Bool) (N i : Nat) (x : VRow) (X : VFam) (w0 w : World) (h : OA w0 w r c o l k s fv fs t1 t2 t3 N) (hs : s.size ≤ 1048576) (h30 : fs.length ≤ 31) (hx : x.row.name.size ≤ 60)
    (hi : fs.length = i + 1) (hX : fs[i]? = some X) (hkn : knownO (fs.map VFam.fam) x.row.name.data.toList = true) (hne : (X.name.data.toList == x.row.name.data.toList) = true) (hpt : X.pts.length = 0) (hk : x.row.kind = 1) (ht : t1 = false) (hpl : X.pts.length ≤ 120) :
    Calls Tryz.prog 81 #[.pointer (some ⟨r, 0, none⟩), .agg #[.int .i64 x.row.kind, .string x.row.name, .int .i64 x.row.off, .slice x.tA x.row.tags.length x.tc, .slice x.fA x.row.fields.length x.fc, .string x.row.text, .int .i64 x.row.pos, .bool x.row.timed, .string x.row.time, .int .i64 x.row.when_]] w fun e w' => e = .returned (.bool true) ∧ OA w0 w' r c o l k s fv fs true t2 t3 N ∧ Keep r w w' := by
  subst ht
  have hkz : (x.row.kind : Int) = 1 := by rw [hk]; rfl
  rw [hkz]
  have h1 := h.alloc (.cells #[.int .i64 1, .string x.row.name, .int .i64 x.row.off, .slice x.tA x.row.tags.length x.tc, .slice x.fA x.row.fields.length x.fc, .string x.row.text, .int .i64 x.row.pos, .bool x.row.timed, .string x.row.time, .int .i64 x.row.when_] 43)
  have hR : RowAt (w.alloc (.cells #[.int .i64 1, .string x.row.name, .int .i64 x.row.off, .slice x.tA x.row.tags.length x.tc, .slice x.fA x.row.fields.length x.fc, .string x.row.text, .int .i64 x.row.pos, .bool x.row.timed, .string x.row.time, .int .i64 x.row.when_] 43)) w.heap.size x := by
    unfold RowAt
    rw [hkz]
    exact Blk.new w 43 #[.int .i64 1, .string x.row.name, .int .i64 x.row.off, .slice x.tA x.row.tags.length x.tc, .slice x.fA x.row.fields.length x.fc, .string x.row.text, .int .i64 x.row.pos, .bool x.row.timed, .string x.row.time, .int .i64 x.row.when_]
  obtain ⟨p, _, hp, kS⟩ := stands_any r c o l k s fv fs false t2 t3 N w0 _ h1 h30
  obtain ⟨g, fc, rfl, rfl, hg⟩ := hp i hi
  have d1 : decide ((60 : Int) < (x.row.name.size : Int)) = false := decide_eq_false (by omega)
  have d1n : decide (60 < x.row.name.size) = false := decide_eq_false (by omega)
  have p1 : decide ((0 : Int) < (X.pts.length : Int)) = false := decide_eq_false (by omega)
  have p1n : decide (0 < X.pts.length) = false := decide_eq_false (by omega)
  have hn1 : (X.name.toList == x.row.name.toList) = true := by rw [ByteArray.toList_eq, ByteArray.toList_eq]; exact hne
  clear h hp
  go_enter Tryz.func81, Tryz.ntmps81
  go_upto_region 4 with (
    (go_at_call 75; (with_reducible refine kS.mono ?_); rintro e w2 ⟨rfl, hA2⟩; have h2 := h1.call hA2; have hR2 := hR.aw hA2 (by simp); obtain ⟨e0, e1, e2⟩ := hR2.facts; rw [hkz] at e0))
  obtain ⟨⟨_, _, _, _, _, _, _, r7, r8, r9, _⟩, _⟩ := h2.rd.facts
  obtain ⟨gq, fq, e1q, _, x4, _⟩ := h2.fams.at_ hX
  injection e1q with e1q e2q e3q
  injection e1q with e1q
  injection e1q with e1q e4q
  clear e2q e4q
  subst e1q e3q
  have x0 := FamsAt.name_ h2.fams hX
  have hS0 : (w2.drew.cell? ⟨w.heap.size, 0, none⟩ = some (.int .i64 1) ∧ w2.drew.cell? ⟨w.heap.size, 1, none⟩ = some (.string x.row.name) ∧ w2.drew.cell? ⟨g, i * 5, none⟩ = some (.string X.name) ∧ w2.drew.cell? ⟨g, i * 5 + 4, none⟩ = some (.slice X.A X.pts.length X.c) ∧ w2.drew.cell? ⟨r, 7, none⟩ = some (.bool false)) ∧ Aw [] w2.drew w2.drew := ⟨⟨e0, e1, x0, x4, r7⟩, Aw.refl [] _⟩
  have HX := Lib.hid hX
  have kK := fun W hA => known_any r c o l k s (.slice (some ⟨g, 0, none⟩) (i + 1) fc) fs false t2 t3 N x.row.name w0 W (h2.drew.call hA) (by omega)
  rw [hkn] at kK
  have HO : Hid (∀ W, Aw [] w2.drew W → OA w0 W r c o l k s (.slice (some ⟨g, 0, none⟩) (i + 1) fc) fs false t2 t3 N) := Lib.hid (fun W hA => h2.drew.call hA)
  have HRB : Hid (∀ W, Aw [] w2.drew W → RowAt W w.heap.size x) := Lib.hid (fun W hA => (hR2.aw (Aw.refl [] w2).drew (by simp)).aw hA (by simp))
  have HKP : Hid (∀ W, Aw [] w2.drew W → Keep r w W) := Lib.hid (fun W hA b t cs hB _ _ => Blk.aw (Blk.aw (Blk.aw (Blk.alloc hB _) hA2 (by simp)) (Aw.refl [] w2).drew (by simp)) hA (by simp))
  clear kS h1 hR h2 hR2 hA2 e0 e1 e2 x4 x0 r7 r8 r9 hX hkn hne hpt hk
  refine wp_region_held_drew (S := (fun w' => (w'.cell? ⟨w.heap.size, 0, none⟩ = some (.int .i64 1) ∧ w'.cell? ⟨w.heap.size, 1, none⟩ = some (.string x.row.name) ∧ w'.cell? ⟨g, i * 5, none⟩ = some (.string X.name) ∧ w'.cell? ⟨g, i * 5 + 4, none⟩ = some (.slice X.A X.pts.length X.c) ∧ w'.cell? ⟨r, 7, none⟩ = some (.bool false)) ∧ Aw [] w2.drew w')) (by kernel_rfl) ?_ (fun hHeld0 => ?_)
  · (try dsimp only); (first | exact hS0 | assumption)
  refine wpAnyH_take (i := 0) (oi := _) (v := ?_) rfl (by kernel_rfl) (by kernel_rfl) (by kernel_rfl) (fun _ _ _ h => h) (Or.inl ⟨by rfl, ?_⟩) (by assumption) ?_
  rotate_left
  focus ((intro w hSw; (try dsimp only at hSw); go_simp; try with_reducible rfl); done)
  (try simp only [Act.put, List.setIfInBounds_toArray, List.set_cons_zero, List.set_cons_succ, List.getElem_toArray, List.getElem_cons_zero, List.getElem_cons_succ])
  refine wpAnyH_take (i := 1) (oi := _) (v := ?_) rfl (by kernel_rfl) (by kernel_rfl) (by kernel_rfl) (fun _ _ _ h => h) (Or.inl ⟨by rfl, ?_⟩) (by assumption) ?_
  rotate_left
  focus ((intro w hSw; (try dsimp only at hSw); go_simp; try with_reducible rfl); done)
  (try simp only [Act.put, List.setIfInBounds_toArray, List.set_cons_zero, List.set_cons_succ, List.getElem_toArray, List.getElem_cons_zero, List.getElem_cons_succ])
  refine wpAnyH_take (i := 2) (oi := _) (v := ?_) rfl (by kernel_rfl) (by kernel_rfl) (by kernel_rfl) (fun _ _ _ h => h) (Or.inl ⟨by rfl, ?_⟩) (by assumption) ?_
  rotate_left
  focus ((intro w hSw; (try dsimp only at hSw); go_simp; try with_reducible rfl); done)
  (try simp only [Act.put, List.setIfInBounds_toArray, List.set_cons_zero, List.set_cons_succ, List.getElem_toArray, List.getElem_cons_zero, List.getElem_cons_succ])
  refine wpAnyH_ready (rs := [3]) (by kernel_rfl) (by simp) ?_
  refine AllReadyH.cons (o := _) rfl (fun K hK => ?_) AllReadyH.nil
  go_simp
  go_wp2_with (go_at_call 121; (with_reducible refine (kK _ (by first | assumption | exact Aw.refl [] _)).mono ?_); rintro e w3 ⟨rfl, hA3⟩; obtain ⟨_, hcur⟩ := ‹(_ ∧ _) ∧ Aw [] w2.drew _›; have hA4 := hcur.trans hA3; have hS3 := And.intro (And.intro ((HRB.out _ hA4).facts.1.trans (by rw [hkz])) (And.intro (HRB.out _ hA4).facts.2.1 (And.intro (FamsAt.name_ (HO.out _ hA4).fams HX.out) (And.intro (FamsAt.pts_ (HO.out _ hA4).fams HX.out) ((HO.out _ hA4).rd.facts.1.2.2.2.2.2.2.2.1))))) hA4)
  refine hK.out _ _ ?_ (fun hHeld1 => ?_)
  · (try dsimp only); (first | exact hS0 | assumption)
  clear hK K
  (try simp only [Act.put, List.setIfInBounds_toArray, List.set_cons_zero, List.set_cons_succ, List.getElem_toArray, List.getElem_cons_zero, List.getElem_cons_succ])
  refine wpAnyH_take (i := 4) (oi := _) (v := ?_) rfl (by kernel_rfl) (by kernel_rfl) (by kernel_rfl) (fun _ _ _ h => h) (Or.inl ⟨by rfl, ?_⟩) (by assumption) ?_
  rotate_left
  focus ((intro w hSw; (try dsimp only at hSw); go_simp; try with_reducible rfl); done)
  (try simp only [Act.put, List.setIfInBounds_toArray, List.set_cons_zero, List.set_cons_succ, List.getElem_toArray, List.getElem_cons_zero, List.getElem_cons_succ])
  refine wpAnyH_take (i := 5) (oi := _) (v := ?_) rfl (by kernel_rfl) (by kernel_rfl) (by kernel_rfl) (fun _ _ _ h => h) (Or.inl ⟨by rfl, ?_⟩) (by assumption) ?_
  rotate_left
  focus ((intro w hSw; (try dsimp only at hSw); go_simp; try with_reducible rfl); done)
  (try simp only [Act.put, List.setIfInBounds_toArray, List.set_cons_zero, List.set_cons_succ, List.getElem_toArray, List.getElem_cons_zero, List.getElem_cons_succ])
  refine wpAnyH_take (i := 10) (oi := _) (v := ?_) rfl (by kernel_rfl) (by kernel_rfl) (by kernel_rfl) (fun _ _ _ h => h) (Or.inl ⟨by rfl, ?_⟩) (by assumption) ?_
  rotate_left
  focus ((intro w hSw; (try dsimp only at hSw); go_simp; try with_reducible rfl); done)
  (try simp only [Act.put, List.setIfInBounds_toArray, List.set_cons_zero, List.set_cons_succ, List.getElem_toArray, List.getElem_cons_zero, List.getElem_cons_succ])
  refine wpAnyH_take (i := 11) (oi := _) (v := ?_) rfl (by kernel_rfl) (by kernel_rfl) (by kernel_rfl) (fun _ _ _ h => h) (Or.inl ⟨by rfl, ?_⟩) (by assumption) ?_
  rotate_left
  focus ((intro w hSw; (try dsimp only at hSw); go_simp; try with_reducible rfl); done)
  (try simp only [Act.put, List.setIfInBounds_toArray, List.set_cons_zero, List.set_cons_succ, List.getElem_toArray, List.getElem_cons_zero, List.getElem_cons_succ])
  refine wpAnyH_ready (rs := [6]) (by kernel_rfl) (by simp) ?_
  refine AllReadyH.cons (o := _) rfl (fun K hK => ?_) AllReadyH.nil
  go_simp
  refine hK.out _ _ ?_ (fun hHeld2 => ?_)
  · (try dsimp only); (first | exact hS0 | assumption)
  clear hK K
  (try simp only [Act.put, List.setIfInBounds_toArray, List.set_cons_zero, List.set_cons_succ, List.getElem_toArray, List.getElem_cons_zero, List.getElem_cons_succ])
  refine wpAnyH_take (i := 7) (oi := _) (v := ?_) rfl (by kernel_rfl) (by kernel_rfl) (by kernel_rfl) (fun _ _ _ h => h) (Or.inl ⟨by rfl, ?_⟩) (by assumption) ?_
  rotate_left
  focus ((intro w hSw; (try dsimp only at hSw); go_simp; try with_reducible rfl); done)
  (try simp only [Act.put, List.setIfInBounds_toArray, List.set_cons_zero, List.set_cons_succ, List.getElem_toArray, List.getElem_cons_zero, List.getElem_cons_succ])
  refine wpAnyH_take (i := 8) (oi := _) (v := ?_) rfl (by kernel_rfl) (by kernel_rfl) (by kernel_rfl) (fun _ _ _ h => h) (Or.inl ⟨by rfl, ?_⟩) (by assumption) ?_
  rotate_left
  focus ((intro w hSw; (try dsimp only at hSw); go_simp; try with_reducible rfl); done)
  (try simp only [Act.put, List.setIfInBounds_toArray, List.set_cons_zero, List.set_cons_succ, List.getElem_toArray, List.getElem_cons_zero, List.getElem_cons_succ])
  refine wpAnyH_take (i := 9) (oi := _) (v := ?_) rfl (by kernel_rfl) (by kernel_rfl) (by kernel_rfl) (fun _ _ _ h => h) (Or.inl ⟨by rfl, ?_⟩) (by assumption) ?_
  rotate_left
  focus ((intro w hSw; (try dsimp only at hSw); go_simp; try with_reducible rfl); done)
  (try simp only [Act.put, List.setIfInBounds_toArray, List.set_cons_zero, List.set_cons_succ, List.getElem_toArray, List.getElem_cons_zero, List.getElem_cons_succ])
  refine wpAnyH_take (i := 12) (oi := _) (v := ?_) rfl (by kernel_rfl) (by kernel_rfl) (by kernel_rfl) (fun _ _ _ h => h) (Or.inl ⟨by rfl, ?_⟩) (by assumption) ?_
  rotate_left
  focus ((intro w hSw; (try dsimp only at hSw); go_simp; try with_reducible rfl); done)
  (try simp only [Act.put, List.setIfInBounds_toArray, List.set_cons_zero, List.set_cons_succ, List.getElem_toArray, List.getElem_cons_zero, List.getElem_cons_succ])
  refine wpAnyH_take (i := 13) (oi := _) (v := ?_) rfl (by kernel_rfl) (by kernel_rfl) (by kernel_rfl) (fun _ _ _ h => h) (Or.inl ⟨by rfl, ?_⟩) (by assumption) ?_
  rotate_left
  focus ((intro w hSw; (try dsimp only at hSw); go_simp; try with_reducible rfl); done)
  (try simp only [Act.put, List.setIfInBounds_toArray, List.set_cons_zero, List.set_cons_succ, List.getElem_toArray, List.getElem_cons_zero, List.getElem_cons_succ])
  refine wpAnyH_take (i := 14) (oi := _) (v := ?_) rfl (by kernel_rfl) (by kernel_rfl) (by kernel_rfl) (fun _ _ _ h => h) (Or.inl ⟨by rfl, ?_⟩) (by assumption) ?_
  rotate_left
  focus ((intro w hSw; (try dsimp only at hSw); go_simp; try with_reducible rfl); done)
  (try simp only [Act.put, List.setIfInBounds_toArray, List.set_cons_zero, List.set_cons_succ, List.getElem_toArray, List.getElem_cons_zero, List.getElem_cons_succ])
  refine wpAnyH_ready (rs := [15]) (by kernel_rfl) (by simp) ?_
  refine AllReadyH.cons (o := _) rfl (fun K hK => ?_) AllReadyH.nil
  go_simp
  refine hK.out _ _ ?_ (fun hHeld3 => ?_)
  · (try dsimp only); (first | exact hS0 | assumption)
  clear hK K
  (try simp only [Act.put, List.setIfInBounds_toArray, List.set_cons_zero, List.set_cons_succ, List.getElem_toArray, List.getElem_cons_zero, List.getElem_cons_succ])
  refine wpAnyH_take (i := 16) (oi := _) (v := ?_) rfl (by kernel_rfl) (by kernel_rfl) (by kernel_rfl) (fun _ _ _ h => h) (Or.inl ⟨by rfl, ?_⟩) (by assumption) ?_
  rotate_left
  focus ((intro w hSw; (try dsimp only at hSw); go_simp; try with_reducible rfl); done)
  (try simp only [Act.put, List.setIfInBounds_toArray, List.set_cons_zero, List.set_cons_succ, List.getElem_toArray, List.getElem_cons_zero, List.getElem_cons_succ])
  refine wpAnyH_take (i := 17) (oi := _) (v := ?_) rfl (by kernel_rfl) (by kernel_rfl) (by kernel_rfl) (fun _ _ _ h => h) (Or.inl ⟨by rfl, ?_⟩) (by assumption) ?_
  rotate_left
  focus ((intro w hSw; (try dsimp only at hSw); go_simp; try with_reducible rfl); done)
  (try simp only [Act.put, List.setIfInBounds_toArray, List.set_cons_zero, List.set_cons_succ, List.getElem_toArray, List.getElem_cons_zero, List.getElem_cons_succ])
  refine wpAnyH_take (i := 18) (oi := _) (v := ?_) rfl (by kernel_rfl) (by kernel_rfl) (by kernel_rfl) (fun _ _ _ h => h) (Or.inl ⟨by rfl, ?_⟩) (by assumption) ?_
  rotate_left
  focus ((intro w hSw; (try dsimp only at hSw); go_simp; try with_reducible rfl); done)
  (try simp only [Act.put, List.setIfInBounds_toArray, List.set_cons_zero, List.set_cons_succ, List.getElem_toArray, List.getElem_cons_zero, List.getElem_cons_succ])
  refine wpAnyH_take (i := 19) (oi := _) (v := ?_) rfl (by kernel_rfl) (by kernel_rfl) (by kernel_rfl) (fun _ _ _ h => h) (Or.inl ⟨by rfl, ?_⟩) (by assumption) ?_
  rotate_left
  focus ((intro w hSw; (try dsimp only at hSw); go_simp; try with_reducible rfl); done)
  (try simp only [Act.put, List.setIfInBounds_toArray, List.set_cons_zero, List.set_cons_succ, List.getElem_toArray, List.getElem_cons_zero, List.getElem_cons_succ])
  refine wpAnyH_take (i := 20) (oi := _) (v := ?_) rfl (by kernel_rfl) (by kernel_rfl) (by kernel_rfl) (fun _ _ _ h => h) (Or.inl ⟨by rfl, ?_⟩) (by assumption) ?_
  rotate_left
  focus ((intro w hSw; (try dsimp only at hSw); go_simp; try with_reducible rfl); done)
  (try simp only [Act.put, List.setIfInBounds_toArray, List.set_cons_zero, List.set_cons_succ, List.getElem_toArray, List.getElem_cons_zero, List.getElem_cons_succ])
  refine wpAnyH_take (i := 21) (oi := _) (v := ?_) rfl (by kernel_rfl) (by kernel_rfl) (by kernel_rfl) (fun _ _ _ h => h) (Or.inl ⟨by rfl, ?_⟩) (by assumption) ?_
  rotate_left
  focus ((intro w hSw; (try dsimp only at hSw); go_simp; try with_reducible rfl); done)
  (try simp only [Act.put, List.setIfInBounds_toArray, List.set_cons_zero, List.set_cons_succ, List.getElem_toArray, List.getElem_cons_zero, List.getElem_cons_succ])
  refine wpAnyH_take (i := 22) (oi := _) (v := ?_) rfl (by kernel_rfl) (by kernel_rfl) (by kernel_rfl) (fun _ _ _ h => h) (Or.inl ⟨by rfl, ?_⟩) (by assumption) ?_
  rotate_left
  focus ((intro w hSw; (try dsimp only at hSw); go_simp; try with_reducible rfl); done)
  (try simp only [Act.put, List.setIfInBounds_toArray, List.set_cons_zero, List.set_cons_succ, List.getElem_toArray, List.getElem_cons_zero, List.getElem_cons_succ])
  refine wpAnyH_take (i := 23) (oi := _) (v := ?_) rfl (by kernel_rfl) (by kernel_rfl) (by kernel_rfl) (fun _ _ _ h => h) (Or.inl ⟨by rfl, ?_⟩) (by assumption) ?_
  rotate_left
  focus ((intro w hSw; (try dsimp only at hSw); go_simp; try with_reducible rfl); done)
  (try simp only [Act.put, List.setIfInBounds_toArray, List.set_cons_zero, List.set_cons_succ, List.getElem_toArray, List.getElem_cons_zero, List.getElem_cons_succ])
  refine wpAnyH_take (i := 24) (oi := _) (v := ?_) rfl (by kernel_rfl) (by kernel_rfl) (by kernel_rfl) (fun _ _ _ h => h) (Or.inl ⟨by rfl, ?_⟩) (by assumption) ?_
  rotate_left
  focus ((intro w hSw; (try dsimp only at hSw); go_simp; try with_reducible rfl); done)
  (try simp only [Act.put, List.setIfInBounds_toArray, List.set_cons_zero, List.set_cons_succ, List.getElem_toArray, List.getElem_cons_zero, List.getElem_cons_succ])
  refine wpAnyH_ready (rs := [25]) (by kernel_rfl) (by simp) ?_
  refine AllReadyH.cons (o := _) rfl (fun K hK => ?_) AllReadyH.nil
  go_simp
  refine hK.out _ _ ?_ (fun hHeld4 => ?_)
  · (try dsimp only); (first | exact hS0 | assumption)
  clear hK K
  (try simp only [Act.put, List.setIfInBounds_toArray, List.set_cons_zero, List.set_cons_succ, List.getElem_toArray, List.getElem_cons_zero, List.getElem_cons_succ])
  refine wpAnyH_take (i := 26) (oi := _) (v := ?_) rfl (by kernel_rfl) (by kernel_rfl) (by kernel_rfl) (fun _ _ _ h => h) (Or.inl ⟨by rfl, ?_⟩) (by assumption) ?_
  rotate_left
  focus ((intro w hSw; (try dsimp only at hSw); go_simp; try with_reducible rfl); done)
  (try simp only [Act.put, List.setIfInBounds_toArray, List.set_cons_zero, List.set_cons_succ, List.getElem_toArray, List.getElem_cons_zero, List.getElem_cons_succ])
  refine wpAnyH_take (i := 27) (oi := _) (v := ?_) rfl (by kernel_rfl) (by kernel_rfl) (by kernel_rfl) (fun _ _ _ h => h) (Or.inl ⟨by rfl, ?_⟩) (by assumption) ?_
  rotate_left
  focus ((intro w hSw; (try dsimp only at hSw); go_simp; try with_reducible rfl); done)
  (try simp only [Act.put, List.setIfInBounds_toArray, List.set_cons_zero, List.set_cons_succ, List.getElem_toArray, List.getElem_cons_zero, List.getElem_cons_succ])
  refine wpAnyH_take (i := 28) (oi := _) (v := ?_) rfl (by kernel_rfl) (by kernel_rfl) (by kernel_rfl) (fun _ _ _ h => h) (Or.inl ⟨by rfl, ?_⟩) (by assumption) ?_
  rotate_left
  focus ((intro w hSw; (try dsimp only at hSw); go_simp; try with_reducible rfl); done)
  (try simp only [Act.put, List.setIfInBounds_toArray, List.set_cons_zero, List.set_cons_succ, List.getElem_toArray, List.getElem_cons_zero, List.getElem_cons_succ])
  refine wpAnyH_take (i := 29) (oi := _) (v := ?_) rfl (by kernel_rfl) (by kernel_rfl) (by kernel_rfl) (fun _ _ _ h => h) (Or.inl ⟨by rfl, ?_⟩) (by assumption) ?_
  rotate_left
  focus ((intro w hSw; (try dsimp only at hSw); go_simp; try with_reducible rfl); done)
  (try simp only [Act.put, List.setIfInBounds_toArray, List.set_cons_zero, List.set_cons_succ, List.getElem_toArray, List.getElem_cons_zero, List.getElem_cons_succ])
  refine wpAnyH_take (i := 30) (oi := _) (v := ?_) rfl (by kernel_rfl) (by kernel_rfl) (by kernel_rfl) (fun _ _ _ h => h) (Or.inl ⟨by rfl, ?_⟩) (by assumption) ?_
  rotate_left
  focus ((intro w hSw; (try dsimp only at hSw); go_simp; try with_reducible rfl); done)
  (try simp only [Act.put, List.setIfInBounds_toArray, List.set_cons_zero, List.set_cons_succ, List.getElem_toArray, List.getElem_cons_zero, List.getElem_cons_succ])
  refine wpAnyH_take (i := 31) (oi := _) (v := ?_) rfl (by kernel_rfl) (by kernel_rfl) (by kernel_rfl) (fun _ _ _ h => h) (Or.inl ⟨by rfl, ?_⟩) (by assumption) ?_
  rotate_left
  focus ((intro w hSw; (try dsimp only at hSw); go_simp; try with_reducible rfl); done)
  (try simp only [Act.put, List.setIfInBounds_toArray, List.set_cons_zero, List.set_cons_succ, List.getElem_toArray, List.getElem_cons_zero, List.getElem_cons_succ])
  refine wpAnyH_done (by kernel_rfl) ?_ _
  have hAe := hHeld2.2
  obtain ⟨y0, y1, y2⟩ := (HRB.out _ hAe).facts
  rw [hkz] at y0
  go_upto_region 8 with (go_at_call 121; (with_reducible refine (kK _ hAe).mono ?_); rintro e w4 ⟨rfl, hA5⟩; have hAf := hAe.trans hA5; have hOf := HO.out _ hAf; have hRf := HRB.out _ hAf)
  obtain ⟨z0, z1, z2⟩ := hRf.facts
  rw [hkz] at z0
  obtain ⟨⟨_, _, _, _, _, _, u6, u7, u8, u9, _⟩, f⟩ := hOf.rd.facts
  have fK := f 7
  clear f kK HO HRB hS0 hHeld0 hHeld1 hHeld2 hAe y0 y1 y2
  go_region
  all_goals go_wp2_with fail
  go_ret
  exact ⟨rfl, ⟨Blk.set_ hOf.drew.rd 7 (.bool true), hOf.drew.fams.far hOf.drew.rd (by decide) (by decide) (by decide) 7 _, hOf.drew.aw.setCell (.inl (by simp)) _, hOf.rl⟩, fun b t cs hB hbr ht => Blk.far (Blk.drew (HKP.out _ hAf b t cs hB hbr ht)) (p := ⟨r, 7, none⟩) hbr _⟩
set_option maxRecDepth 100000 in
set_option maxHeartbeats 6400000 in
theorem named_tell2 (r : Nat) (c o l k : Int) (s : ByteArray) (fv : Value) (fs : List VFam) (t1 t2 t3 : Bool) (N i : Nat) (x : VRow) (X : VFam) (w0 w : World) (h : OA w0 w r c o l k s fv fs t1 t2 t3 N) (hs : s.size ≤ 1048576) (h30 : fs.length ≤ 31) (hx : x.row.name.size ≤ 60)
    (hi : fs.length = i + 1) (hX : fs[i]? = some X) (hkn : knownO (fs.map VFam.fam) x.row.name.data.toList = true) (hne : (X.name.data.toList == x.row.name.data.toList) = true) (hpt : X.pts.length = 0) (hk : x.row.kind = 2) (ht : t2 = false) (hpl : X.pts.length ≤ 120) :
    Calls Tryz.prog 81 #[.pointer (some ⟨r, 0, none⟩), .agg #[.int .i64 x.row.kind, .string x.row.name, .int .i64 x.row.off, .slice x.tA x.row.tags.length x.tc, .slice x.fA x.row.fields.length x.fc, .string x.row.text, .int .i64 x.row.pos, .bool x.row.timed, .string x.row.time, .int .i64 x.row.when_]] w fun e w' => e = .returned (.bool true) ∧ OA w0 w' r c o l k s fv fs t1 true t3 N ∧ Keep r w w' := by
  subst ht
  have hkz : (x.row.kind : Int) = 2 := by rw [hk]; rfl
  rw [hkz]
  have h1 := h.alloc (.cells #[.int .i64 2, .string x.row.name, .int .i64 x.row.off, .slice x.tA x.row.tags.length x.tc, .slice x.fA x.row.fields.length x.fc, .string x.row.text, .int .i64 x.row.pos, .bool x.row.timed, .string x.row.time, .int .i64 x.row.when_] 43)
  have hR : RowAt (w.alloc (.cells #[.int .i64 2, .string x.row.name, .int .i64 x.row.off, .slice x.tA x.row.tags.length x.tc, .slice x.fA x.row.fields.length x.fc, .string x.row.text, .int .i64 x.row.pos, .bool x.row.timed, .string x.row.time, .int .i64 x.row.when_] 43)) w.heap.size x := by
    unfold RowAt
    rw [hkz]
    exact Blk.new w 43 #[.int .i64 2, .string x.row.name, .int .i64 x.row.off, .slice x.tA x.row.tags.length x.tc, .slice x.fA x.row.fields.length x.fc, .string x.row.text, .int .i64 x.row.pos, .bool x.row.timed, .string x.row.time, .int .i64 x.row.when_]
  obtain ⟨p, _, hp, kS⟩ := stands_any r c o l k s fv fs t1 false t3 N w0 _ h1 h30
  obtain ⟨g, fc, rfl, rfl, hg⟩ := hp i hi
  have d1 : decide ((60 : Int) < (x.row.name.size : Int)) = false := decide_eq_false (by omega)
  have d1n : decide (60 < x.row.name.size) = false := decide_eq_false (by omega)
  have p1 : decide ((0 : Int) < (X.pts.length : Int)) = false := decide_eq_false (by omega)
  have p1n : decide (0 < X.pts.length) = false := decide_eq_false (by omega)
  have hn1 : (X.name.toList == x.row.name.toList) = true := by rw [ByteArray.toList_eq, ByteArray.toList_eq]; exact hne
  clear h hp
  go_enter Tryz.func81, Tryz.ntmps81
  go_upto_region 4 with (
    (go_at_call 75; (with_reducible refine kS.mono ?_); rintro e w2 ⟨rfl, hA2⟩; have h2 := h1.call hA2; have hR2 := hR.aw hA2 (by simp); obtain ⟨e0, e1, e2⟩ := hR2.facts; rw [hkz] at e0))
  obtain ⟨⟨_, _, _, _, _, _, _, r7, r8, r9, _⟩, _⟩ := h2.rd.facts
  obtain ⟨gq, fq, e1q, _, x4, _⟩ := h2.fams.at_ hX
  injection e1q with e1q e2q e3q
  injection e1q with e1q
  injection e1q with e1q e4q
  clear e2q e4q
  subst e1q e3q
  have x0 := FamsAt.name_ h2.fams hX
  have hS0 : (w2.drew.cell? ⟨w.heap.size, 0, none⟩ = some (.int .i64 2) ∧ w2.drew.cell? ⟨w.heap.size, 1, none⟩ = some (.string x.row.name) ∧ w2.drew.cell? ⟨g, i * 5, none⟩ = some (.string X.name) ∧ w2.drew.cell? ⟨g, i * 5 + 4, none⟩ = some (.slice X.A X.pts.length X.c) ∧ w2.drew.cell? ⟨r, 8, none⟩ = some (.bool false)) ∧ Aw [] w2.drew w2.drew := ⟨⟨e0, e1, x0, x4, r8⟩, Aw.refl [] _⟩
  have HX := Lib.hid hX
  have kK := fun W hA => known_any r c o l k s (.slice (some ⟨g, 0, none⟩) (i + 1) fc) fs t1 false t3 N x.row.name w0 W (h2.drew.call hA) (by omega)
  rw [hkn] at kK
  have HO : Hid (∀ W, Aw [] w2.drew W → OA w0 W r c o l k s (.slice (some ⟨g, 0, none⟩) (i + 1) fc) fs t1 false t3 N) := Lib.hid (fun W hA => h2.drew.call hA)
  have HRB : Hid (∀ W, Aw [] w2.drew W → RowAt W w.heap.size x) := Lib.hid (fun W hA => (hR2.aw (Aw.refl [] w2).drew (by simp)).aw hA (by simp))
  have HKP : Hid (∀ W, Aw [] w2.drew W → Keep r w W) := Lib.hid (fun W hA b t cs hB _ _ => Blk.aw (Blk.aw (Blk.aw (Blk.alloc hB _) hA2 (by simp)) (Aw.refl [] w2).drew (by simp)) hA (by simp))
  clear kS h1 hR h2 hR2 hA2 e0 e1 e2 x4 x0 r7 r8 r9 hX hkn hne hpt hk
  refine wp_region_held_drew (S := (fun w' => (w'.cell? ⟨w.heap.size, 0, none⟩ = some (.int .i64 2) ∧ w'.cell? ⟨w.heap.size, 1, none⟩ = some (.string x.row.name) ∧ w'.cell? ⟨g, i * 5, none⟩ = some (.string X.name) ∧ w'.cell? ⟨g, i * 5 + 4, none⟩ = some (.slice X.A X.pts.length X.c) ∧ w'.cell? ⟨r, 8, none⟩ = some (.bool false)) ∧ Aw [] w2.drew w')) (by kernel_rfl) ?_ (fun hHeld0 => ?_)
  · (try dsimp only); (first | exact hS0 | assumption)
  refine wpAnyH_take (i := 0) (oi := _) (v := ?_) rfl (by kernel_rfl) (by kernel_rfl) (by kernel_rfl) (fun _ _ _ h => h) (Or.inl ⟨by rfl, ?_⟩) (by assumption) ?_
  rotate_left
  focus ((intro w hSw; (try dsimp only at hSw); go_simp; try with_reducible rfl); done)
  (try simp only [Act.put, List.setIfInBounds_toArray, List.set_cons_zero, List.set_cons_succ, List.getElem_toArray, List.getElem_cons_zero, List.getElem_cons_succ])
  refine wpAnyH_take (i := 1) (oi := _) (v := ?_) rfl (by kernel_rfl) (by kernel_rfl) (by kernel_rfl) (fun _ _ _ h => h) (Or.inl ⟨by rfl, ?_⟩) (by assumption) ?_
  rotate_left
  focus ((intro w hSw; (try dsimp only at hSw); go_simp; try with_reducible rfl); done)
  (try simp only [Act.put, List.setIfInBounds_toArray, List.set_cons_zero, List.set_cons_succ, List.getElem_toArray, List.getElem_cons_zero, List.getElem_cons_succ])
  refine wpAnyH_take (i := 2) (oi := _) (v := ?_) rfl (by kernel_rfl) (by kernel_rfl) (by kernel_rfl) (fun _ _ _ h => h) (Or.inl ⟨by rfl, ?_⟩) (by assumption) ?_
  rotate_left
  focus ((intro w hSw; (try dsimp only at hSw); go_simp; try with_reducible rfl); done)
  (try simp only [Act.put, List.setIfInBounds_toArray, List.set_cons_zero, List.set_cons_succ, List.getElem_toArray, List.getElem_cons_zero, List.getElem_cons_succ])
  refine wpAnyH_ready (rs := [3]) (by kernel_rfl) (by simp) ?_
  refine AllReadyH.cons (o := _) rfl (fun K hK => ?_) AllReadyH.nil
  go_simp
  go_wp2_with (go_at_call 121; (with_reducible refine (kK _ (by first | assumption | exact Aw.refl [] _)).mono ?_); rintro e w3 ⟨rfl, hA3⟩; obtain ⟨_, hcur⟩ := ‹(_ ∧ _) ∧ Aw [] w2.drew _›; have hA4 := hcur.trans hA3; have hS3 := And.intro (And.intro ((HRB.out _ hA4).facts.1.trans (by rw [hkz])) (And.intro (HRB.out _ hA4).facts.2.1 (And.intro (FamsAt.name_ (HO.out _ hA4).fams HX.out) (And.intro (FamsAt.pts_ (HO.out _ hA4).fams HX.out) ((HO.out _ hA4).rd.facts.1.2.2.2.2.2.2.2.2.1))))) hA4)
  refine hK.out _ _ ?_ (fun hHeld1 => ?_)
  · (try dsimp only); (first | exact hS0 | assumption)
  clear hK K
  (try simp only [Act.put, List.setIfInBounds_toArray, List.set_cons_zero, List.set_cons_succ, List.getElem_toArray, List.getElem_cons_zero, List.getElem_cons_succ])
  refine wpAnyH_take (i := 4) (oi := _) (v := ?_) rfl (by kernel_rfl) (by kernel_rfl) (by kernel_rfl) (fun _ _ _ h => h) (Or.inl ⟨by rfl, ?_⟩) (by assumption) ?_
  rotate_left
  focus ((intro w hSw; (try dsimp only at hSw); go_simp; try with_reducible rfl); done)
  (try simp only [Act.put, List.setIfInBounds_toArray, List.set_cons_zero, List.set_cons_succ, List.getElem_toArray, List.getElem_cons_zero, List.getElem_cons_succ])
  refine wpAnyH_take (i := 5) (oi := _) (v := ?_) rfl (by kernel_rfl) (by kernel_rfl) (by kernel_rfl) (fun _ _ _ h => h) (Or.inl ⟨by rfl, ?_⟩) (by assumption) ?_
  rotate_left
  focus ((intro w hSw; (try dsimp only at hSw); go_simp; try with_reducible rfl); done)
  (try simp only [Act.put, List.setIfInBounds_toArray, List.set_cons_zero, List.set_cons_succ, List.getElem_toArray, List.getElem_cons_zero, List.getElem_cons_succ])
  refine wpAnyH_take (i := 10) (oi := _) (v := ?_) rfl (by kernel_rfl) (by kernel_rfl) (by kernel_rfl) (fun _ _ _ h => h) (Or.inl ⟨by rfl, ?_⟩) (by assumption) ?_
  rotate_left
  focus ((intro w hSw; (try dsimp only at hSw); go_simp; try with_reducible rfl); done)
  (try simp only [Act.put, List.setIfInBounds_toArray, List.set_cons_zero, List.set_cons_succ, List.getElem_toArray, List.getElem_cons_zero, List.getElem_cons_succ])
  refine wpAnyH_take (i := 11) (oi := _) (v := ?_) rfl (by kernel_rfl) (by kernel_rfl) (by kernel_rfl) (fun _ _ _ h => h) (Or.inl ⟨by rfl, ?_⟩) (by assumption) ?_
  rotate_left
  focus ((intro w hSw; (try dsimp only at hSw); go_simp; try with_reducible rfl); done)
  (try simp only [Act.put, List.setIfInBounds_toArray, List.set_cons_zero, List.set_cons_succ, List.getElem_toArray, List.getElem_cons_zero, List.getElem_cons_succ])
  refine wpAnyH_ready (rs := [6]) (by kernel_rfl) (by simp) ?_
  refine AllReadyH.cons (o := _) rfl (fun K hK => ?_) AllReadyH.nil
  go_simp
  refine hK.out _ _ ?_ (fun hHeld2 => ?_)
  · (try dsimp only); (first | exact hS0 | assumption)
  clear hK K
  (try simp only [Act.put, List.setIfInBounds_toArray, List.set_cons_zero, List.set_cons_succ, List.getElem_toArray, List.getElem_cons_zero, List.getElem_cons_succ])
  refine wpAnyH_take (i := 7) (oi := _) (v := ?_) rfl (by kernel_rfl) (by kernel_rfl) (by kernel_rfl) (fun _ _ _ h => h) (Or.inl ⟨by rfl, ?_⟩) (by assumption) ?_
  rotate_left
  focus ((intro w hSw; (try dsimp only at hSw); go_simp; try with_reducible rfl); done)
  (try simp only [Act.put, List.setIfInBounds_toArray, List.set_cons_zero, List.set_cons_succ, List.getElem_toArray, List.getElem_cons_zero, List.getElem_cons_succ])
  refine wpAnyH_take (i := 8) (oi := _) (v := ?_) rfl (by kernel_rfl) (by kernel_rfl) (by kernel_rfl) (fun _ _ _ h => h) (Or.inl ⟨by rfl, ?_⟩) (by assumption) ?_
  rotate_left
  focus ((intro w hSw; (try dsimp only at hSw); go_simp; try with_reducible rfl); done)
  (try simp only [Act.put, List.setIfInBounds_toArray, List.set_cons_zero, List.set_cons_succ, List.getElem_toArray, List.getElem_cons_zero, List.getElem_cons_succ])
  refine wpAnyH_take (i := 9) (oi := _) (v := ?_) rfl (by kernel_rfl) (by kernel_rfl) (by kernel_rfl) (fun _ _ _ h => h) (Or.inl ⟨by rfl, ?_⟩) (by assumption) ?_
  rotate_left
  focus ((intro w hSw; (try dsimp only at hSw); go_simp; try with_reducible rfl); done)
  (try simp only [Act.put, List.setIfInBounds_toArray, List.set_cons_zero, List.set_cons_succ, List.getElem_toArray, List.getElem_cons_zero, List.getElem_cons_succ])
  refine wpAnyH_take (i := 12) (oi := _) (v := ?_) rfl (by kernel_rfl) (by kernel_rfl) (by kernel_rfl) (fun _ _ _ h => h) (Or.inl ⟨by rfl, ?_⟩) (by assumption) ?_
  rotate_left
  focus ((intro w hSw; (try dsimp only at hSw); go_simp; try with_reducible rfl); done)
  (try simp only [Act.put, List.setIfInBounds_toArray, List.set_cons_zero, List.set_cons_succ, List.getElem_toArray, List.getElem_cons_zero, List.getElem_cons_succ])
  refine wpAnyH_take (i := 13) (oi := _) (v := ?_) rfl (by kernel_rfl) (by kernel_rfl) (by kernel_rfl) (fun _ _ _ h => h) (Or.inl ⟨by rfl, ?_⟩) (by assumption) ?_
  rotate_left
  focus ((intro w hSw; (try dsimp only at hSw); go_simp; try with_reducible rfl); done)
  (try simp only [Act.put, List.setIfInBounds_toArray, List.set_cons_zero, List.set_cons_succ, List.getElem_toArray, List.getElem_cons_zero, List.getElem_cons_succ])
  refine wpAnyH_take (i := 14) (oi := _) (v := ?_) rfl (by kernel_rfl) (by kernel_rfl) (by kernel_rfl) (fun _ _ _ h => h) (Or.inl ⟨by rfl, ?_⟩) (by assumption) ?_
  rotate_left
  focus ((intro w hSw; (try dsimp only at hSw); go_simp; try with_reducible rfl); done)
  (try simp only [Act.put, List.setIfInBounds_toArray, List.set_cons_zero, List.set_cons_succ, List.getElem_toArray, List.getElem_cons_zero, List.getElem_cons_succ])
  refine wpAnyH_ready (rs := [15]) (by kernel_rfl) (by simp) ?_
  refine AllReadyH.cons (o := _) rfl (fun K hK => ?_) AllReadyH.nil
  go_simp
  refine hK.out _ _ ?_ (fun hHeld3 => ?_)
  · (try dsimp only); (first | exact hS0 | assumption)
  clear hK K
  (try simp only [Act.put, List.setIfInBounds_toArray, List.set_cons_zero, List.set_cons_succ, List.getElem_toArray, List.getElem_cons_zero, List.getElem_cons_succ])
  refine wpAnyH_take (i := 16) (oi := _) (v := ?_) rfl (by kernel_rfl) (by kernel_rfl) (by kernel_rfl) (fun _ _ _ h => h) (Or.inl ⟨by rfl, ?_⟩) (by assumption) ?_
  rotate_left
  focus ((intro w hSw; (try dsimp only at hSw); go_simp; try with_reducible rfl); done)
  (try simp only [Act.put, List.setIfInBounds_toArray, List.set_cons_zero, List.set_cons_succ, List.getElem_toArray, List.getElem_cons_zero, List.getElem_cons_succ])
  refine wpAnyH_take (i := 17) (oi := _) (v := ?_) rfl (by kernel_rfl) (by kernel_rfl) (by kernel_rfl) (fun _ _ _ h => h) (Or.inl ⟨by rfl, ?_⟩) (by assumption) ?_
  rotate_left
  focus ((intro w hSw; (try dsimp only at hSw); go_simp; try with_reducible rfl); done)
  (try simp only [Act.put, List.setIfInBounds_toArray, List.set_cons_zero, List.set_cons_succ, List.getElem_toArray, List.getElem_cons_zero, List.getElem_cons_succ])
  refine wpAnyH_take (i := 18) (oi := _) (v := ?_) rfl (by kernel_rfl) (by kernel_rfl) (by kernel_rfl) (fun _ _ _ h => h) (Or.inl ⟨by rfl, ?_⟩) (by assumption) ?_
  rotate_left
  focus ((intro w hSw; (try dsimp only at hSw); go_simp; try with_reducible rfl); done)
  (try simp only [Act.put, List.setIfInBounds_toArray, List.set_cons_zero, List.set_cons_succ, List.getElem_toArray, List.getElem_cons_zero, List.getElem_cons_succ])
  refine wpAnyH_take (i := 19) (oi := _) (v := ?_) rfl (by kernel_rfl) (by kernel_rfl) (by kernel_rfl) (fun _ _ _ h => h) (Or.inl ⟨by rfl, ?_⟩) (by assumption) ?_
  rotate_left
  focus ((intro w hSw; (try dsimp only at hSw); go_simp; try with_reducible rfl); done)
  (try simp only [Act.put, List.setIfInBounds_toArray, List.set_cons_zero, List.set_cons_succ, List.getElem_toArray, List.getElem_cons_zero, List.getElem_cons_succ])
  refine wpAnyH_take (i := 20) (oi := _) (v := ?_) rfl (by kernel_rfl) (by kernel_rfl) (by kernel_rfl) (fun _ _ _ h => h) (Or.inl ⟨by rfl, ?_⟩) (by assumption) ?_
  rotate_left
  focus ((intro w hSw; (try dsimp only at hSw); go_simp; try with_reducible rfl); done)
  (try simp only [Act.put, List.setIfInBounds_toArray, List.set_cons_zero, List.set_cons_succ, List.getElem_toArray, List.getElem_cons_zero, List.getElem_cons_succ])
  refine wpAnyH_take (i := 21) (oi := _) (v := ?_) rfl (by kernel_rfl) (by kernel_rfl) (by kernel_rfl) (fun _ _ _ h => h) (Or.inl ⟨by rfl, ?_⟩) (by assumption) ?_
  rotate_left
  focus ((intro w hSw; (try dsimp only at hSw); go_simp; try with_reducible rfl); done)
  (try simp only [Act.put, List.setIfInBounds_toArray, List.set_cons_zero, List.set_cons_succ, List.getElem_toArray, List.getElem_cons_zero, List.getElem_cons_succ])
  refine wpAnyH_take (i := 22) (oi := _) (v := ?_) rfl (by kernel_rfl) (by kernel_rfl) (by kernel_rfl) (fun _ _ _ h => h) (Or.inl ⟨by rfl, ?_⟩) (by assumption) ?_
  rotate_left
  focus ((intro w hSw; (try dsimp only at hSw); go_simp; try with_reducible rfl); done)
  (try simp only [Act.put, List.setIfInBounds_toArray, List.set_cons_zero, List.set_cons_succ, List.getElem_toArray, List.getElem_cons_zero, List.getElem_cons_succ])
  refine wpAnyH_take (i := 23) (oi := _) (v := ?_) rfl (by kernel_rfl) (by kernel_rfl) (by kernel_rfl) (fun _ _ _ h => h) (Or.inl ⟨by rfl, ?_⟩) (by assumption) ?_
  rotate_left
  focus ((intro w hSw; (try dsimp only at hSw); go_simp; try with_reducible rfl); done)
  (try simp only [Act.put, List.setIfInBounds_toArray, List.set_cons_zero, List.set_cons_succ, List.getElem_toArray, List.getElem_cons_zero, List.getElem_cons_succ])
  refine wpAnyH_take (i := 24) (oi := _) (v := ?_) rfl (by kernel_rfl) (by kernel_rfl) (by kernel_rfl) (fun _ _ _ h => h) (Or.inl ⟨by rfl, ?_⟩) (by assumption) ?_
  rotate_left
  focus ((intro w hSw; (try dsimp only at hSw); go_simp; try with_reducible rfl); done)
  (try simp only [Act.put, List.setIfInBounds_toArray, List.set_cons_zero, List.set_cons_succ, List.getElem_toArray, List.getElem_cons_zero, List.getElem_cons_succ])
  refine wpAnyH_ready (rs := [25]) (by kernel_rfl) (by simp) ?_
  refine AllReadyH.cons (o := _) rfl (fun K hK => ?_) AllReadyH.nil
  go_simp
  refine hK.out _ _ ?_ (fun hHeld4 => ?_)
  · (try dsimp only); (first | exact hS0 | assumption)
  clear hK K
  (try simp only [Act.put, List.setIfInBounds_toArray, List.set_cons_zero, List.set_cons_succ, List.getElem_toArray, List.getElem_cons_zero, List.getElem_cons_succ])
  refine wpAnyH_take (i := 26) (oi := _) (v := ?_) rfl (by kernel_rfl) (by kernel_rfl) (by kernel_rfl) (fun _ _ _ h => h) (Or.inl ⟨by rfl, ?_⟩) (by assumption) ?_
  rotate_left
  focus ((intro w hSw; (try dsimp only at hSw); go_simp; try with_reducible rfl); done)
  (try simp only [Act.put, List.setIfInBounds_toArray, List.set_cons_zero, List.set_cons_succ, List.getElem_toArray, List.getElem_cons_zero, List.getElem_cons_succ])
  refine wpAnyH_take (i := 27) (oi := _) (v := ?_) rfl (by kernel_rfl) (by kernel_rfl) (by kernel_rfl) (fun _ _ _ h => h) (Or.inl ⟨by rfl, ?_⟩) (by assumption) ?_
  rotate_left
  focus ((intro w hSw; (try dsimp only at hSw); go_simp; try with_reducible rfl); done)
  (try simp only [Act.put, List.setIfInBounds_toArray, List.set_cons_zero, List.set_cons_succ, List.getElem_toArray, List.getElem_cons_zero, List.getElem_cons_succ])
  refine wpAnyH_take (i := 28) (oi := _) (v := ?_) rfl (by kernel_rfl) (by kernel_rfl) (by kernel_rfl) (fun _ _ _ h => h) (Or.inl ⟨by rfl, ?_⟩) (by assumption) ?_
  rotate_left
  focus ((intro w hSw; (try dsimp only at hSw); go_simp; try with_reducible rfl); done)
  (try simp only [Act.put, List.setIfInBounds_toArray, List.set_cons_zero, List.set_cons_succ, List.getElem_toArray, List.getElem_cons_zero, List.getElem_cons_succ])
  refine wpAnyH_take (i := 29) (oi := _) (v := ?_) rfl (by kernel_rfl) (by kernel_rfl) (by kernel_rfl) (fun _ _ _ h => h) (Or.inl ⟨by rfl, ?_⟩) (by assumption) ?_
  rotate_left
  focus ((intro w hSw; (try dsimp only at hSw); go_simp; try with_reducible rfl); done)
  (try simp only [Act.put, List.setIfInBounds_toArray, List.set_cons_zero, List.set_cons_succ, List.getElem_toArray, List.getElem_cons_zero, List.getElem_cons_succ])
  refine wpAnyH_take (i := 30) (oi := _) (v := ?_) rfl (by kernel_rfl) (by kernel_rfl) (by kernel_rfl) (fun _ _ _ h => h) (Or.inl ⟨by rfl, ?_⟩) (by assumption) ?_
  rotate_left
  focus ((intro w hSw; (try dsimp only at hSw); go_simp; try with_reducible rfl); done)
  (try simp only [Act.put, List.setIfInBounds_toArray, List.set_cons_zero, List.set_cons_succ, List.getElem_toArray, List.getElem_cons_zero, List.getElem_cons_succ])
  refine wpAnyH_take (i := 31) (oi := _) (v := ?_) rfl (by kernel_rfl) (by kernel_rfl) (by kernel_rfl) (fun _ _ _ h => h) (Or.inl ⟨by rfl, ?_⟩) (by assumption) ?_
  rotate_left
  focus ((intro w hSw; (try dsimp only at hSw); go_simp; try with_reducible rfl); done)
  (try simp only [Act.put, List.setIfInBounds_toArray, List.set_cons_zero, List.set_cons_succ, List.getElem_toArray, List.getElem_cons_zero, List.getElem_cons_succ])
  refine wpAnyH_done (by kernel_rfl) ?_ _
  have hAe := hHeld2.2
  obtain ⟨y0, y1, y2⟩ := (HRB.out _ hAe).facts
  rw [hkz] at y0
  go_upto_region 8 with (go_at_call 121; (with_reducible refine (kK _ hAe).mono ?_); rintro e w4 ⟨rfl, hA5⟩; have hAf := hAe.trans hA5; have hOf := HO.out _ hAf; have hRf := HRB.out _ hAf)
  obtain ⟨z0, z1, z2⟩ := hRf.facts
  rw [hkz] at z0
  obtain ⟨⟨_, _, _, _, _, _, u6, u7, u8, u9, _⟩, f⟩ := hOf.rd.facts
  have fK := f 8
  clear f kK HO HRB hS0 hHeld0 hHeld1 hHeld2 hAe y0 y1 y2
  go_region
  all_goals go_wp2_with fail
  go_ret
  exact ⟨rfl, ⟨Blk.set_ hOf.drew.rd 8 (.bool true), hOf.drew.fams.far hOf.drew.rd (by decide) (by decide) (by decide) 8 _, hOf.drew.aw.setCell (.inl (by simp)) _, hOf.rl⟩, fun b t cs hB hbr ht => Blk.far (Blk.drew (HKP.out _ hAf b t cs hB hbr ht)) (p := ⟨r, 8, none⟩) hbr _⟩
set_option maxRecDepth 100000 in
set_option maxHeartbeats 6400000 in
theorem named_tell3 (r : Nat) (c o l k : Int) (s : ByteArray) (fv : Value) (fs : List VFam) (t1 t2 t3 : Bool) (N i : Nat) (x : VRow) (X : VFam) (w0 w : World) (h : OA w0 w r c o l k s fv fs t1 t2 t3 N) (hs : s.size ≤ 1048576) (h30 : fs.length ≤ 31) (hx : x.row.name.size ≤ 60)
    (hi : fs.length = i + 1) (hX : fs[i]? = some X) (hkn : knownO (fs.map VFam.fam) x.row.name.data.toList = true) (hne : (X.name.data.toList == x.row.name.data.toList) = true) (hpt : X.pts.length = 0) (hk : x.row.kind = 3) (ht : t3 = false) (hpl : X.pts.length ≤ 120) :
    Calls Tryz.prog 81 #[.pointer (some ⟨r, 0, none⟩), .agg #[.int .i64 x.row.kind, .string x.row.name, .int .i64 x.row.off, .slice x.tA x.row.tags.length x.tc, .slice x.fA x.row.fields.length x.fc, .string x.row.text, .int .i64 x.row.pos, .bool x.row.timed, .string x.row.time, .int .i64 x.row.when_]] w fun e w' => e = .returned (.bool true) ∧ OA w0 w' r c o l k s fv fs t1 t2 true N ∧ Keep r w w' := by
  subst ht
  have hkz : (x.row.kind : Int) = 3 := by rw [hk]; rfl
  rw [hkz]
  have h1 := h.alloc (.cells #[.int .i64 3, .string x.row.name, .int .i64 x.row.off, .slice x.tA x.row.tags.length x.tc, .slice x.fA x.row.fields.length x.fc, .string x.row.text, .int .i64 x.row.pos, .bool x.row.timed, .string x.row.time, .int .i64 x.row.when_] 43)
  have hR : RowAt (w.alloc (.cells #[.int .i64 3, .string x.row.name, .int .i64 x.row.off, .slice x.tA x.row.tags.length x.tc, .slice x.fA x.row.fields.length x.fc, .string x.row.text, .int .i64 x.row.pos, .bool x.row.timed, .string x.row.time, .int .i64 x.row.when_] 43)) w.heap.size x := by
    unfold RowAt
    rw [hkz]
    exact Blk.new w 43 #[.int .i64 3, .string x.row.name, .int .i64 x.row.off, .slice x.tA x.row.tags.length x.tc, .slice x.fA x.row.fields.length x.fc, .string x.row.text, .int .i64 x.row.pos, .bool x.row.timed, .string x.row.time, .int .i64 x.row.when_]
  obtain ⟨p, _, hp, kS⟩ := stands_any r c o l k s fv fs t1 t2 false N w0 _ h1 h30
  obtain ⟨g, fc, rfl, rfl, hg⟩ := hp i hi
  have d1 : decide ((60 : Int) < (x.row.name.size : Int)) = false := decide_eq_false (by omega)
  have d1n : decide (60 < x.row.name.size) = false := decide_eq_false (by omega)
  have p1 : decide ((0 : Int) < (X.pts.length : Int)) = false := decide_eq_false (by omega)
  have p1n : decide (0 < X.pts.length) = false := decide_eq_false (by omega)
  have hn1 : (X.name.toList == x.row.name.toList) = true := by rw [ByteArray.toList_eq, ByteArray.toList_eq]; exact hne
  clear h hp
  go_enter Tryz.func81, Tryz.ntmps81
  go_upto_region 4 with (
    (go_at_call 75; (with_reducible refine kS.mono ?_); rintro e w2 ⟨rfl, hA2⟩; have h2 := h1.call hA2; have hR2 := hR.aw hA2 (by simp); obtain ⟨e0, e1, e2⟩ := hR2.facts; rw [hkz] at e0))
  obtain ⟨⟨_, _, _, _, _, _, _, r7, r8, r9, _⟩, _⟩ := h2.rd.facts
  obtain ⟨gq, fq, e1q, _, x4, _⟩ := h2.fams.at_ hX
  injection e1q with e1q e2q e3q
  injection e1q with e1q
  injection e1q with e1q e4q
  clear e2q e4q
  subst e1q e3q
  have x0 := FamsAt.name_ h2.fams hX
  have hS0 : (w2.drew.cell? ⟨w.heap.size, 0, none⟩ = some (.int .i64 3) ∧ w2.drew.cell? ⟨w.heap.size, 1, none⟩ = some (.string x.row.name) ∧ w2.drew.cell? ⟨g, i * 5, none⟩ = some (.string X.name) ∧ w2.drew.cell? ⟨g, i * 5 + 4, none⟩ = some (.slice X.A X.pts.length X.c) ∧ w2.drew.cell? ⟨r, 9, none⟩ = some (.bool false)) ∧ Aw [] w2.drew w2.drew := ⟨⟨e0, e1, x0, x4, r9⟩, Aw.refl [] _⟩
  have HX := Lib.hid hX
  have kK := fun W hA => known_any r c o l k s (.slice (some ⟨g, 0, none⟩) (i + 1) fc) fs t1 t2 false N x.row.name w0 W (h2.drew.call hA) (by omega)
  rw [hkn] at kK
  have HO : Hid (∀ W, Aw [] w2.drew W → OA w0 W r c o l k s (.slice (some ⟨g, 0, none⟩) (i + 1) fc) fs t1 t2 false N) := Lib.hid (fun W hA => h2.drew.call hA)
  have HRB : Hid (∀ W, Aw [] w2.drew W → RowAt W w.heap.size x) := Lib.hid (fun W hA => (hR2.aw (Aw.refl [] w2).drew (by simp)).aw hA (by simp))
  have HKP : Hid (∀ W, Aw [] w2.drew W → Keep r w W) := Lib.hid (fun W hA b t cs hB _ _ => Blk.aw (Blk.aw (Blk.aw (Blk.alloc hB _) hA2 (by simp)) (Aw.refl [] w2).drew (by simp)) hA (by simp))
  clear kS h1 hR h2 hR2 hA2 e0 e1 e2 x4 x0 r7 r8 r9 hX hkn hne hpt hk
  refine wp_region_held_drew (S := (fun w' => (w'.cell? ⟨w.heap.size, 0, none⟩ = some (.int .i64 3) ∧ w'.cell? ⟨w.heap.size, 1, none⟩ = some (.string x.row.name) ∧ w'.cell? ⟨g, i * 5, none⟩ = some (.string X.name) ∧ w'.cell? ⟨g, i * 5 + 4, none⟩ = some (.slice X.A X.pts.length X.c) ∧ w'.cell? ⟨r, 9, none⟩ = some (.bool false)) ∧ Aw [] w2.drew w')) (by kernel_rfl) ?_ (fun hHeld0 => ?_)
  · (try dsimp only); (first | exact hS0 | assumption)
  refine wpAnyH_take (i := 0) (oi := _) (v := ?_) rfl (by kernel_rfl) (by kernel_rfl) (by kernel_rfl) (fun _ _ _ h => h) (Or.inl ⟨by rfl, ?_⟩) (by assumption) ?_
  rotate_left
  focus ((intro w hSw; (try dsimp only at hSw); go_simp; try with_reducible rfl); done)
  (try simp only [Act.put, List.setIfInBounds_toArray, List.set_cons_zero, List.set_cons_succ, List.getElem_toArray, List.getElem_cons_zero, List.getElem_cons_succ])
  refine wpAnyH_take (i := 1) (oi := _) (v := ?_) rfl (by kernel_rfl) (by kernel_rfl) (by kernel_rfl) (fun _ _ _ h => h) (Or.inl ⟨by rfl, ?_⟩) (by assumption) ?_
  rotate_left
  focus ((intro w hSw; (try dsimp only at hSw); go_simp; try with_reducible rfl); done)
  (try simp only [Act.put, List.setIfInBounds_toArray, List.set_cons_zero, List.set_cons_succ, List.getElem_toArray, List.getElem_cons_zero, List.getElem_cons_succ])
  refine wpAnyH_take (i := 2) (oi := _) (v := ?_) rfl (by kernel_rfl) (by kernel_rfl) (by kernel_rfl) (fun _ _ _ h => h) (Or.inl ⟨by rfl, ?_⟩) (by assumption) ?_
  rotate_left
  focus ((intro w hSw; (try dsimp only at hSw); go_simp; try with_reducible rfl); done)
  (try simp only [Act.put, List.setIfInBounds_toArray, List.set_cons_zero, List.set_cons_succ, List.getElem_toArray, List.getElem_cons_zero, List.getElem_cons_succ])
  refine wpAnyH_ready (rs := [3]) (by kernel_rfl) (by simp) ?_
  refine AllReadyH.cons (o := _) rfl (fun K hK => ?_) AllReadyH.nil
  go_simp
  go_wp2_with (go_at_call 121; (with_reducible refine (kK _ (by first | assumption | exact Aw.refl [] _)).mono ?_); rintro e w3 ⟨rfl, hA3⟩; obtain ⟨_, hcur⟩ := ‹(_ ∧ _) ∧ Aw [] w2.drew _›; have hA4 := hcur.trans hA3; have hS3 := And.intro (And.intro ((HRB.out _ hA4).facts.1.trans (by rw [hkz])) (And.intro (HRB.out _ hA4).facts.2.1 (And.intro (FamsAt.name_ (HO.out _ hA4).fams HX.out) (And.intro (FamsAt.pts_ (HO.out _ hA4).fams HX.out) ((HO.out _ hA4).rd.facts.1.2.2.2.2.2.2.2.2.2.1))))) hA4)
  refine hK.out _ _ ?_ (fun hHeld1 => ?_)
  · (try dsimp only); (first | exact hS0 | assumption)
  clear hK K
  (try simp only [Act.put, List.setIfInBounds_toArray, List.set_cons_zero, List.set_cons_succ, List.getElem_toArray, List.getElem_cons_zero, List.getElem_cons_succ])
  refine wpAnyH_take (i := 4) (oi := _) (v := ?_) rfl (by kernel_rfl) (by kernel_rfl) (by kernel_rfl) (fun _ _ _ h => h) (Or.inl ⟨by rfl, ?_⟩) (by assumption) ?_
  rotate_left
  focus ((intro w hSw; (try dsimp only at hSw); go_simp; try with_reducible rfl); done)
  (try simp only [Act.put, List.setIfInBounds_toArray, List.set_cons_zero, List.set_cons_succ, List.getElem_toArray, List.getElem_cons_zero, List.getElem_cons_succ])
  refine wpAnyH_take (i := 5) (oi := _) (v := ?_) rfl (by kernel_rfl) (by kernel_rfl) (by kernel_rfl) (fun _ _ _ h => h) (Or.inl ⟨by rfl, ?_⟩) (by assumption) ?_
  rotate_left
  focus ((intro w hSw; (try dsimp only at hSw); go_simp; try with_reducible rfl); done)
  (try simp only [Act.put, List.setIfInBounds_toArray, List.set_cons_zero, List.set_cons_succ, List.getElem_toArray, List.getElem_cons_zero, List.getElem_cons_succ])
  refine wpAnyH_take (i := 10) (oi := _) (v := ?_) rfl (by kernel_rfl) (by kernel_rfl) (by kernel_rfl) (fun _ _ _ h => h) (Or.inl ⟨by rfl, ?_⟩) (by assumption) ?_
  rotate_left
  focus ((intro w hSw; (try dsimp only at hSw); go_simp; try with_reducible rfl); done)
  (try simp only [Act.put, List.setIfInBounds_toArray, List.set_cons_zero, List.set_cons_succ, List.getElem_toArray, List.getElem_cons_zero, List.getElem_cons_succ])
  refine wpAnyH_take (i := 11) (oi := _) (v := ?_) rfl (by kernel_rfl) (by kernel_rfl) (by kernel_rfl) (fun _ _ _ h => h) (Or.inl ⟨by rfl, ?_⟩) (by assumption) ?_
  rotate_left
  focus ((intro w hSw; (try dsimp only at hSw); go_simp; try with_reducible rfl); done)
  (try simp only [Act.put, List.setIfInBounds_toArray, List.set_cons_zero, List.set_cons_succ, List.getElem_toArray, List.getElem_cons_zero, List.getElem_cons_succ])
  refine wpAnyH_ready (rs := [6]) (by kernel_rfl) (by simp) ?_
  refine AllReadyH.cons (o := _) rfl (fun K hK => ?_) AllReadyH.nil
  go_simp
  refine hK.out _ _ ?_ (fun hHeld2 => ?_)
  · (try dsimp only); (first | exact hS0 | assumption)
  clear hK K
  (try simp only [Act.put, List.setIfInBounds_toArray, List.set_cons_zero, List.set_cons_succ, List.getElem_toArray, List.getElem_cons_zero, List.getElem_cons_succ])
  refine wpAnyH_take (i := 7) (oi := _) (v := ?_) rfl (by kernel_rfl) (by kernel_rfl) (by kernel_rfl) (fun _ _ _ h => h) (Or.inl ⟨by rfl, ?_⟩) (by assumption) ?_
  rotate_left
  focus ((intro w hSw; (try dsimp only at hSw); go_simp; try with_reducible rfl); done)
  (try simp only [Act.put, List.setIfInBounds_toArray, List.set_cons_zero, List.set_cons_succ, List.getElem_toArray, List.getElem_cons_zero, List.getElem_cons_succ])
  refine wpAnyH_take (i := 8) (oi := _) (v := ?_) rfl (by kernel_rfl) (by kernel_rfl) (by kernel_rfl) (fun _ _ _ h => h) (Or.inl ⟨by rfl, ?_⟩) (by assumption) ?_
  rotate_left
  focus ((intro w hSw; (try dsimp only at hSw); go_simp; try with_reducible rfl); done)
  (try simp only [Act.put, List.setIfInBounds_toArray, List.set_cons_zero, List.set_cons_succ, List.getElem_toArray, List.getElem_cons_zero, List.getElem_cons_succ])
  refine wpAnyH_take (i := 9) (oi := _) (v := ?_) rfl (by kernel_rfl) (by kernel_rfl) (by kernel_rfl) (fun _ _ _ h => h) (Or.inl ⟨by rfl, ?_⟩) (by assumption) ?_
  rotate_left
  focus ((intro w hSw; (try dsimp only at hSw); go_simp; try with_reducible rfl); done)
  (try simp only [Act.put, List.setIfInBounds_toArray, List.set_cons_zero, List.set_cons_succ, List.getElem_toArray, List.getElem_cons_zero, List.getElem_cons_succ])
  refine wpAnyH_take (i := 12) (oi := _) (v := ?_) rfl (by kernel_rfl) (by kernel_rfl) (by kernel_rfl) (fun _ _ _ h => h) (Or.inl ⟨by rfl, ?_⟩) (by assumption) ?_
  rotate_left
  focus ((intro w hSw; (try dsimp only at hSw); go_simp; try with_reducible rfl); done)
  (try simp only [Act.put, List.setIfInBounds_toArray, List.set_cons_zero, List.set_cons_succ, List.getElem_toArray, List.getElem_cons_zero, List.getElem_cons_succ])
  refine wpAnyH_take (i := 13) (oi := _) (v := ?_) rfl (by kernel_rfl) (by kernel_rfl) (by kernel_rfl) (fun _ _ _ h => h) (Or.inl ⟨by rfl, ?_⟩) (by assumption) ?_
  rotate_left
  focus ((intro w hSw; (try dsimp only at hSw); go_simp; try with_reducible rfl); done)
  (try simp only [Act.put, List.setIfInBounds_toArray, List.set_cons_zero, List.set_cons_succ, List.getElem_toArray, List.getElem_cons_zero, List.getElem_cons_succ])
  refine wpAnyH_take (i := 14) (oi := _) (v := ?_) rfl (by kernel_rfl) (by kernel_rfl) (by kernel_rfl) (fun _ _ _ h => h) (Or.inl ⟨by rfl, ?_⟩) (by assumption) ?_
  rotate_left
  focus ((intro w hSw; (try dsimp only at hSw); go_simp; try with_reducible rfl); done)
  (try simp only [Act.put, List.setIfInBounds_toArray, List.set_cons_zero, List.set_cons_succ, List.getElem_toArray, List.getElem_cons_zero, List.getElem_cons_succ])
  refine wpAnyH_ready (rs := [15]) (by kernel_rfl) (by simp) ?_
  refine AllReadyH.cons (o := _) rfl (fun K hK => ?_) AllReadyH.nil
  go_simp
  refine hK.out _ _ ?_ (fun hHeld3 => ?_)
  · (try dsimp only); (first | exact hS0 | assumption)
  clear hK K
  (try simp only [Act.put, List.setIfInBounds_toArray, List.set_cons_zero, List.set_cons_succ, List.getElem_toArray, List.getElem_cons_zero, List.getElem_cons_succ])
  refine wpAnyH_take (i := 16) (oi := _) (v := ?_) rfl (by kernel_rfl) (by kernel_rfl) (by kernel_rfl) (fun _ _ _ h => h) (Or.inl ⟨by rfl, ?_⟩) (by assumption) ?_
  rotate_left
  focus ((intro w hSw; (try dsimp only at hSw); go_simp; try with_reducible rfl); done)
  (try simp only [Act.put, List.setIfInBounds_toArray, List.set_cons_zero, List.set_cons_succ, List.getElem_toArray, List.getElem_cons_zero, List.getElem_cons_succ])
  refine wpAnyH_take (i := 17) (oi := _) (v := ?_) rfl (by kernel_rfl) (by kernel_rfl) (by kernel_rfl) (fun _ _ _ h => h) (Or.inl ⟨by rfl, ?_⟩) (by assumption) ?_
  rotate_left
  focus ((intro w hSw; (try dsimp only at hSw); go_simp; try with_reducible rfl); done)
  (try simp only [Act.put, List.setIfInBounds_toArray, List.set_cons_zero, List.set_cons_succ, List.getElem_toArray, List.getElem_cons_zero, List.getElem_cons_succ])
  refine wpAnyH_take (i := 18) (oi := _) (v := ?_) rfl (by kernel_rfl) (by kernel_rfl) (by kernel_rfl) (fun _ _ _ h => h) (Or.inl ⟨by rfl, ?_⟩) (by assumption) ?_
  rotate_left
  focus ((intro w hSw; (try dsimp only at hSw); go_simp; try with_reducible rfl); done)
  (try simp only [Act.put, List.setIfInBounds_toArray, List.set_cons_zero, List.set_cons_succ, List.getElem_toArray, List.getElem_cons_zero, List.getElem_cons_succ])
  refine wpAnyH_take (i := 19) (oi := _) (v := ?_) rfl (by kernel_rfl) (by kernel_rfl) (by kernel_rfl) (fun _ _ _ h => h) (Or.inl ⟨by rfl, ?_⟩) (by assumption) ?_
  rotate_left
  focus ((intro w hSw; (try dsimp only at hSw); go_simp; try with_reducible rfl); done)
  (try simp only [Act.put, List.setIfInBounds_toArray, List.set_cons_zero, List.set_cons_succ, List.getElem_toArray, List.getElem_cons_zero, List.getElem_cons_succ])
  refine wpAnyH_take (i := 20) (oi := _) (v := ?_) rfl (by kernel_rfl) (by kernel_rfl) (by kernel_rfl) (fun _ _ _ h => h) (Or.inl ⟨by rfl, ?_⟩) (by assumption) ?_
  rotate_left
  focus ((intro w hSw; (try dsimp only at hSw); go_simp; try with_reducible rfl); done)
  (try simp only [Act.put, List.setIfInBounds_toArray, List.set_cons_zero, List.set_cons_succ, List.getElem_toArray, List.getElem_cons_zero, List.getElem_cons_succ])
  refine wpAnyH_take (i := 21) (oi := _) (v := ?_) rfl (by kernel_rfl) (by kernel_rfl) (by kernel_rfl) (fun _ _ _ h => h) (Or.inl ⟨by rfl, ?_⟩) (by assumption) ?_
  rotate_left
  focus ((intro w hSw; (try dsimp only at hSw); go_simp; try with_reducible rfl); done)
  (try simp only [Act.put, List.setIfInBounds_toArray, List.set_cons_zero, List.set_cons_succ, List.getElem_toArray, List.getElem_cons_zero, List.getElem_cons_succ])
  refine wpAnyH_take (i := 22) (oi := _) (v := ?_) rfl (by kernel_rfl) (by kernel_rfl) (by kernel_rfl) (fun _ _ _ h => h) (Or.inl ⟨by rfl, ?_⟩) (by assumption) ?_
  rotate_left
  focus ((intro w hSw; (try dsimp only at hSw); go_simp; try with_reducible rfl); done)
  (try simp only [Act.put, List.setIfInBounds_toArray, List.set_cons_zero, List.set_cons_succ, List.getElem_toArray, List.getElem_cons_zero, List.getElem_cons_succ])
  refine wpAnyH_take (i := 23) (oi := _) (v := ?_) rfl (by kernel_rfl) (by kernel_rfl) (by kernel_rfl) (fun _ _ _ h => h) (Or.inl ⟨by rfl, ?_⟩) (by assumption) ?_
  rotate_left
  focus ((intro w hSw; (try dsimp only at hSw); go_simp; try with_reducible rfl); done)
  (try simp only [Act.put, List.setIfInBounds_toArray, List.set_cons_zero, List.set_cons_succ, List.getElem_toArray, List.getElem_cons_zero, List.getElem_cons_succ])
  refine wpAnyH_take (i := 24) (oi := _) (v := ?_) rfl (by kernel_rfl) (by kernel_rfl) (by kernel_rfl) (fun _ _ _ h => h) (Or.inl ⟨by rfl, ?_⟩) (by assumption) ?_
  rotate_left
  focus ((intro w hSw; (try dsimp only at hSw); go_simp; try with_reducible rfl); done)
  (try simp only [Act.put, List.setIfInBounds_toArray, List.set_cons_zero, List.set_cons_succ, List.getElem_toArray, List.getElem_cons_zero, List.getElem_cons_succ])
  refine wpAnyH_ready (rs := [25]) (by kernel_rfl) (by simp) ?_
  refine AllReadyH.cons (o := _) rfl (fun K hK => ?_) AllReadyH.nil
  go_simp
  refine hK.out _ _ ?_ (fun hHeld4 => ?_)
  · (try dsimp only); (first | exact hS0 | assumption)
  clear hK K
  (try simp only [Act.put, List.setIfInBounds_toArray, List.set_cons_zero, List.set_cons_succ, List.getElem_toArray, List.getElem_cons_zero, List.getElem_cons_succ])
  refine wpAnyH_take (i := 26) (oi := _) (v := ?_) rfl (by kernel_rfl) (by kernel_rfl) (by kernel_rfl) (fun _ _ _ h => h) (Or.inl ⟨by rfl, ?_⟩) (by assumption) ?_
  rotate_left
  focus ((intro w hSw; (try dsimp only at hSw); go_simp; try with_reducible rfl); done)
  (try simp only [Act.put, List.setIfInBounds_toArray, List.set_cons_zero, List.set_cons_succ, List.getElem_toArray, List.getElem_cons_zero, List.getElem_cons_succ])
  refine wpAnyH_take (i := 27) (oi := _) (v := ?_) rfl (by kernel_rfl) (by kernel_rfl) (by kernel_rfl) (fun _ _ _ h => h) (Or.inl ⟨by rfl, ?_⟩) (by assumption) ?_
  rotate_left
  focus ((intro w hSw; (try dsimp only at hSw); go_simp; try with_reducible rfl); done)
  (try simp only [Act.put, List.setIfInBounds_toArray, List.set_cons_zero, List.set_cons_succ, List.getElem_toArray, List.getElem_cons_zero, List.getElem_cons_succ])
  refine wpAnyH_take (i := 28) (oi := _) (v := ?_) rfl (by kernel_rfl) (by kernel_rfl) (by kernel_rfl) (fun _ _ _ h => h) (Or.inl ⟨by rfl, ?_⟩) (by assumption) ?_
  rotate_left
  focus ((intro w hSw; (try dsimp only at hSw); go_simp; try with_reducible rfl); done)
  (try simp only [Act.put, List.setIfInBounds_toArray, List.set_cons_zero, List.set_cons_succ, List.getElem_toArray, List.getElem_cons_zero, List.getElem_cons_succ])
  refine wpAnyH_take (i := 29) (oi := _) (v := ?_) rfl (by kernel_rfl) (by kernel_rfl) (by kernel_rfl) (fun _ _ _ h => h) (Or.inl ⟨by rfl, ?_⟩) (by assumption) ?_
  rotate_left
  focus ((intro w hSw; (try dsimp only at hSw); go_simp; try with_reducible rfl); done)
  (try simp only [Act.put, List.setIfInBounds_toArray, List.set_cons_zero, List.set_cons_succ, List.getElem_toArray, List.getElem_cons_zero, List.getElem_cons_succ])
  refine wpAnyH_take (i := 30) (oi := _) (v := ?_) rfl (by kernel_rfl) (by kernel_rfl) (by kernel_rfl) (fun _ _ _ h => h) (Or.inl ⟨by rfl, ?_⟩) (by assumption) ?_
  rotate_left
  focus ((intro w hSw; (try dsimp only at hSw); go_simp; try with_reducible rfl); done)
  (try simp only [Act.put, List.setIfInBounds_toArray, List.set_cons_zero, List.set_cons_succ, List.getElem_toArray, List.getElem_cons_zero, List.getElem_cons_succ])
  refine wpAnyH_take (i := 31) (oi := _) (v := ?_) rfl (by kernel_rfl) (by kernel_rfl) (by kernel_rfl) (fun _ _ _ h => h) (Or.inl ⟨by rfl, ?_⟩) (by assumption) ?_
  rotate_left
  focus ((intro w hSw; (try dsimp only at hSw); go_simp; try with_reducible rfl); done)
  (try simp only [Act.put, List.setIfInBounds_toArray, List.set_cons_zero, List.set_cons_succ, List.getElem_toArray, List.getElem_cons_zero, List.getElem_cons_succ])
  refine wpAnyH_done (by kernel_rfl) ?_ _
  have hAe := hHeld2.2
  obtain ⟨y0, y1, y2⟩ := (HRB.out _ hAe).facts
  rw [hkz] at y0
  go_upto_region 8 with (go_at_call 121; (with_reducible refine (kK _ hAe).mono ?_); rintro e w4 ⟨rfl, hA5⟩; have hAf := hAe.trans hA5; have hOf := HO.out _ hAf; have hRf := HRB.out _ hAf)
  obtain ⟨z0, z1, z2⟩ := hRf.facts
  rw [hkz] at z0
  obtain ⟨⟨_, _, _, _, _, _, u6, u7, u8, u9, _⟩, f⟩ := hOf.rd.facts
  have fK := f 9
  clear f kK HO HRB hS0 hHeld0 hHeld1 hHeld2 hAe y0 y1 y2
  go_region
  all_goals go_wp2_with fail
  go_ret
  exact ⟨rfl, ⟨Blk.set_ hOf.drew.rd 9 (.bool true), hOf.drew.fams.far hOf.drew.rd (by decide) (by decide) (by decide) 9 _, hOf.drew.aw.setCell (.inl (by simp)) _, hOf.rl⟩, fun b t cs hB hbr ht => Blk.far (Blk.drew (HKP.out _ hAf b t cs hB hbr ht)) (p := ⟨r, 9, none⟩) hbr _⟩
end
section
set_option maxRecDepth 100000 in
set_option maxHeartbeats 6400000 in
theorem named_full (r : Nat) (c o l k : Int) (s : ByteArray) (fv : Value) (fs : List VFam) (t1 t2 t3 : Bool) (N i : Nat) (x : VRow) (X : VFam) (w0 w : World) (h : OA w0 w r c o l k s fv fs t1 t2 t3 N) (hs : s.size ≤ 1048576) (h30 : fs.length ≤ 31) (hx : x.row.name.size ≤ 60)
    (hi : fs.length = i + 1) (hX : fs[i]? = some X) (hkn : knownO (fs.map VFam.fam) x.row.name.data.toList = false) (hful : 30 ≤ fs.length) :
    Calls Tryz.prog 81 #[.pointer (some ⟨r, 0, none⟩), .agg #[.int .i64 x.row.kind, .string x.row.name, .int .i64 x.row.off, .slice x.tA x.row.tags.length x.tc, .slice x.fA x.row.fields.length x.fc, .string x.row.text, .int .i64 x.row.pos, .bool x.row.timed, .string x.row.time, .int .i64 x.row.when_]] w fun e w' => e = .returned (.bool false) ∧ (∃ fv t1 t2 t3 N, Obf w' r 14 x.row.off s fv t1 t2 t3 N) ∧ Aw [r] w0 w' := by
  have h1 := h.alloc (.cells #[.int .i64 x.row.kind, .string x.row.name, .int .i64 x.row.off, .slice x.tA x.row.tags.length x.tc, .slice x.fA x.row.fields.length x.fc, .string x.row.text, .int .i64 x.row.pos, .bool x.row.timed, .string x.row.time, .int .i64 x.row.when_] 43)
  have hR : RowAt _ w.heap.size x := Blk.new w 43 #[.int .i64 x.row.kind, .string x.row.name, .int .i64 x.row.off, .slice x.tA x.row.tags.length x.tc, .slice x.fA x.row.fields.length x.fc, .string x.row.text, .int .i64 x.row.pos, .bool x.row.timed, .string x.row.time, .int .i64 x.row.when_]
  obtain ⟨p, _, hp, kS⟩ := stands_any r c o l k s fv fs t1 t2 t3 N w0 _ h1 h30
  obtain ⟨g, fc, rfl, rfl, hg⟩ := hp i hi
  have d1 : decide ((60 : Int) < (x.row.name.size : Int)) = false := decide_eq_false (by omega)
  have d1n : decide (60 < x.row.name.size) = false := decide_eq_false (by omega)
  have kF : ∀ W, Ob W r c o l k s (.slice (some ⟨g, 0, none⟩) (i + 1) fc) t1 t2 t3 N → Calls Tryz.prog 76 #[.pointer (some ⟨r, 0, none⟩), .int .i64 14, .int .i64 (x.row.off : Int)] W fun e w' => e = .returned (.bool false) ∧ Obf w' r 14 x.row.off s (.slice (some ⟨g, 0, none⟩) (i + 1) fc) t1 t2 t3 N ∧ Aw [r] W w' := fun W h => ofails_any r c o l k s _ t1 t2 t3 N 14 x.row.off W h hs
  clear h hp
  go_enter Tryz.func81, Tryz.ntmps81
  go_upto_region 4 with (
    (go_at_call 75; (with_reducible refine kS.mono ?_); rintro e w2 ⟨rfl, hA2⟩; have h2 := h1.call hA2; have hR2 := hR.aw hA2 (by simp); obtain ⟨e0, e1, e2⟩ := hR2.facts))
  obtain ⟨⟨_, _, _, _, _, _, _, r7, r8, r9, _⟩, _⟩ := h2.rd.facts
  obtain ⟨gq, fq, e1q, _, x4, _⟩ := h2.fams.at_ hX
  injection e1q with e1q e2q e3q
  injection e1q with e1q
  injection e1q with e1q e4q
  clear e2q e4q
  subst e1q e3q
  have x0 := FamsAt.name_ h2.fams hX
  have hS0 : (w2.drew.cell? ⟨w.heap.size, 0, none⟩ = some (.int .i64 x.row.kind) ∧ w2.drew.cell? ⟨w.heap.size, 1, none⟩ = some (.string x.row.name) ∧ w2.drew.cell? ⟨g, i * 5, none⟩ = some (.string X.name)) ∧ Aw [] w2.drew w2.drew := ⟨⟨e0, e1, x0⟩, Aw.refl [] _⟩
  have HX := Lib.hid hX
  have kK := fun W hA => known_any r c o l k s (.slice (some ⟨g, 0, none⟩) (i + 1) fc) fs t1 t2 t3 N x.row.name w0 W (h2.drew.call hA) (by omega)
  rw [hkn] at kK
  have HO : Hid (∀ W, Aw [] w2.drew W → OA w0 W r c o l k s (.slice (some ⟨g, 0, none⟩) (i + 1) fc) fs t1 t2 t3 N) := Lib.hid (fun W hA => h2.drew.call hA)
  have HRB : Hid (∀ W, Aw [] w2.drew W → RowAt W w.heap.size x) := Lib.hid (fun W hA => (hR2.aw (Aw.refl [] w2).drew (by simp)).aw hA (by simp))
  clear kS h1 hR h2 hR2 hA2 e0 e1 e2 x4 x0 r7 r8 r9 hX hkn
  refine wp_region_held_drew (S := (fun w' => (w'.cell? ⟨w.heap.size, 0, none⟩ = some (.int .i64 x.row.kind) ∧ w'.cell? ⟨w.heap.size, 1, none⟩ = some (.string x.row.name) ∧ w'.cell? ⟨g, i * 5, none⟩ = some (.string X.name)) ∧ Aw [] w2.drew w')) (by kernel_rfl) ?_ (fun hHeld0 => ?_)
  · (try dsimp only); (first | exact hS0 | assumption)
  refine wpAnyH_take (i := 0) (oi := _) (v := ?_) rfl (by kernel_rfl) (by kernel_rfl) (by kernel_rfl) (fun _ _ _ h => h) (Or.inl ⟨by rfl, ?_⟩) (by assumption) ?_
  rotate_left
  focus ((intro w hSw; (try dsimp only at hSw); go_simp; try with_reducible rfl); done)
  (try simp only [Act.put, List.setIfInBounds_toArray, List.set_cons_zero, List.set_cons_succ, List.getElem_toArray, List.getElem_cons_zero, List.getElem_cons_succ])
  refine wpAnyH_take (i := 1) (oi := _) (v := ?_) rfl (by kernel_rfl) (by kernel_rfl) (by kernel_rfl) (fun _ _ _ h => h) (Or.inl ⟨by rfl, ?_⟩) (by assumption) ?_
  rotate_left
  focus ((intro w hSw; (try dsimp only at hSw); go_simp; try with_reducible rfl); done)
  (try simp only [Act.put, List.setIfInBounds_toArray, List.set_cons_zero, List.set_cons_succ, List.getElem_toArray, List.getElem_cons_zero, List.getElem_cons_succ])
  refine wpAnyH_take (i := 2) (oi := _) (v := ?_) rfl (by kernel_rfl) (by kernel_rfl) (by kernel_rfl) (fun _ _ _ h => h) (Or.inl ⟨by rfl, ?_⟩) (by assumption) ?_
  rotate_left
  focus ((intro w hSw; (try dsimp only at hSw); go_simp; try with_reducible rfl); done)
  (try simp only [Act.put, List.setIfInBounds_toArray, List.set_cons_zero, List.set_cons_succ, List.getElem_toArray, List.getElem_cons_zero, List.getElem_cons_succ])
  refine wpAnyH_ready (rs := [3]) (by kernel_rfl) (by simp) ?_
  refine AllReadyH.cons (o := _) rfl (fun K hK => ?_) AllReadyH.nil
  go_simp
  go_wp2_with (go_at_call 121; (with_reducible refine (kK _ (by first | assumption | exact Aw.refl [] _)).mono ?_); rintro e w3 ⟨rfl, hA3⟩; obtain ⟨_, hcur⟩ := ‹(_ ∧ _) ∧ Aw [] w2.drew _›; have hA4 := hcur.trans hA3; have hS3 := And.intro (And.intro (HRB.out _ hA4).facts.1 (And.intro (HRB.out _ hA4).facts.2.1 (FamsAt.name_ (HO.out _ hA4).fams HX.out))) hA4)
  refine hK.out _ _ ?_ (fun hHeld1 => ?_)
  · (try dsimp only); (first | exact hS0 | assumption)
  clear hK K
  (try simp only [Act.put, List.setIfInBounds_toArray, List.set_cons_zero, List.set_cons_succ, List.getElem_toArray, List.getElem_cons_zero, List.getElem_cons_succ])
  refine wpAnyH_take (i := 4) (oi := _) (v := ?_) rfl (by kernel_rfl) (by kernel_rfl) (by kernel_rfl) (fun _ _ _ h => h) (Or.inl ⟨by rfl, ?_⟩) (by assumption) ?_
  rotate_left
  focus ((intro w hSw; (try dsimp only at hSw); go_simp; try with_reducible rfl); done)
  (try simp only [Act.put, List.setIfInBounds_toArray, List.set_cons_zero, List.set_cons_succ, List.getElem_toArray, List.getElem_cons_zero, List.getElem_cons_succ])
  refine wpAnyH_take (i := 5) (oi := _) (v := undef) rfl (by kernel_rfl) (by kernel_rfl) (by kernel_rfl) (fun _ _ _ h => h) (Or.inr ⟨by rfl, rfl⟩) (by assumption) ?_
  (try simp only [Act.put, List.setIfInBounds_toArray, List.set_cons_zero, List.set_cons_succ, List.getElem_toArray, List.getElem_cons_zero, List.getElem_cons_succ])
  refine wpAnyH_take (i := 6) (oi := _) (v := undef) rfl (by kernel_rfl) (by kernel_rfl) (by kernel_rfl) (fun _ _ _ h => h) (Or.inr ⟨by rfl, rfl⟩) (by assumption) ?_
  (try simp only [Act.put, List.setIfInBounds_toArray, List.set_cons_zero, List.set_cons_succ, List.getElem_toArray, List.getElem_cons_zero, List.getElem_cons_succ])
  refine wpAnyH_take (i := 7) (oi := _) (v := undef) rfl (by kernel_rfl) (by kernel_rfl) (by kernel_rfl) (fun _ _ _ h => h) (Or.inr ⟨by rfl, rfl⟩) (by assumption) ?_
  (try simp only [Act.put, List.setIfInBounds_toArray, List.set_cons_zero, List.set_cons_succ, List.getElem_toArray, List.getElem_cons_zero, List.getElem_cons_succ])
  refine wpAnyH_take (i := 8) (oi := _) (v := undef) rfl (by kernel_rfl) (by kernel_rfl) (by kernel_rfl) (fun _ _ _ h => h) (Or.inr ⟨by rfl, rfl⟩) (by assumption) ?_
  (try simp only [Act.put, List.setIfInBounds_toArray, List.set_cons_zero, List.set_cons_succ, List.getElem_toArray, List.getElem_cons_zero, List.getElem_cons_succ])
  refine wpAnyH_take (i := 9) (oi := _) (v := undef) rfl (by kernel_rfl) (by kernel_rfl) (by kernel_rfl) (fun _ _ _ h => h) (Or.inr ⟨by rfl, rfl⟩) (by assumption) ?_
  (try simp only [Act.put, List.setIfInBounds_toArray, List.set_cons_zero, List.set_cons_succ, List.getElem_toArray, List.getElem_cons_zero, List.getElem_cons_succ])
  refine wpAnyH_take (i := 10) (oi := _) (v := undef) rfl (by kernel_rfl) (by kernel_rfl) (by kernel_rfl) (fun _ _ _ h => h) (Or.inr ⟨by rfl, rfl⟩) (by assumption) ?_
  (try simp only [Act.put, List.setIfInBounds_toArray, List.set_cons_zero, List.set_cons_succ, List.getElem_toArray, List.getElem_cons_zero, List.getElem_cons_succ])
  refine wpAnyH_take (i := 11) (oi := _) (v := undef) rfl (by kernel_rfl) (by kernel_rfl) (by kernel_rfl) (fun _ _ _ h => h) (Or.inr ⟨by rfl, rfl⟩) (by assumption) ?_
  (try simp only [Act.put, List.setIfInBounds_toArray, List.set_cons_zero, List.set_cons_succ, List.getElem_toArray, List.getElem_cons_zero, List.getElem_cons_succ])
  refine wpAnyH_take (i := 12) (oi := _) (v := undef) rfl (by kernel_rfl) (by kernel_rfl) (by kernel_rfl) (fun _ _ _ h => h) (Or.inr ⟨by rfl, rfl⟩) (by assumption) ?_
  (try simp only [Act.put, List.setIfInBounds_toArray, List.set_cons_zero, List.set_cons_succ, List.getElem_toArray, List.getElem_cons_zero, List.getElem_cons_succ])
  refine wpAnyH_take (i := 13) (oi := _) (v := undef) rfl (by kernel_rfl) (by kernel_rfl) (by kernel_rfl) (fun _ _ _ h => h) (Or.inr ⟨by rfl, rfl⟩) (by assumption) ?_
  (try simp only [Act.put, List.setIfInBounds_toArray, List.set_cons_zero, List.set_cons_succ, List.getElem_toArray, List.getElem_cons_zero, List.getElem_cons_succ])
  refine wpAnyH_take (i := 14) (oi := _) (v := undef) rfl (by kernel_rfl) (by kernel_rfl) (by kernel_rfl) (fun _ _ _ h => h) (Or.inr ⟨by rfl, rfl⟩) (by assumption) ?_
  (try simp only [Act.put, List.setIfInBounds_toArray, List.set_cons_zero, List.set_cons_succ, List.getElem_toArray, List.getElem_cons_zero, List.getElem_cons_succ])
  refine wpAnyH_take (i := 15) (oi := _) (v := undef) rfl (by kernel_rfl) (by kernel_rfl) (by kernel_rfl) (fun _ _ _ h => h) (Or.inr ⟨by rfl, rfl⟩) (by assumption) ?_
  (try simp only [Act.put, List.setIfInBounds_toArray, List.set_cons_zero, List.set_cons_succ, List.getElem_toArray, List.getElem_cons_zero, List.getElem_cons_succ])
  refine wpAnyH_take (i := 16) (oi := _) (v := undef) rfl (by kernel_rfl) (by kernel_rfl) (by kernel_rfl) (fun _ _ _ h => h) (Or.inr ⟨by rfl, rfl⟩) (by assumption) ?_
  (try simp only [Act.put, List.setIfInBounds_toArray, List.set_cons_zero, List.set_cons_succ, List.getElem_toArray, List.getElem_cons_zero, List.getElem_cons_succ])
  refine wpAnyH_take (i := 17) (oi := _) (v := undef) rfl (by kernel_rfl) (by kernel_rfl) (by kernel_rfl) (fun _ _ _ h => h) (Or.inr ⟨by rfl, rfl⟩) (by assumption) ?_
  (try simp only [Act.put, List.setIfInBounds_toArray, List.set_cons_zero, List.set_cons_succ, List.getElem_toArray, List.getElem_cons_zero, List.getElem_cons_succ])
  refine wpAnyH_take (i := 18) (oi := _) (v := undef) rfl (by kernel_rfl) (by kernel_rfl) (by kernel_rfl) (fun _ _ _ h => h) (Or.inr ⟨by rfl, rfl⟩) (by assumption) ?_
  (try simp only [Act.put, List.setIfInBounds_toArray, List.set_cons_zero, List.set_cons_succ, List.getElem_toArray, List.getElem_cons_zero, List.getElem_cons_succ])
  refine wpAnyH_take (i := 19) (oi := _) (v := undef) rfl (by kernel_rfl) (by kernel_rfl) (by kernel_rfl) (fun _ _ _ h => h) (Or.inr ⟨by rfl, rfl⟩) (by assumption) ?_
  (try simp only [Act.put, List.setIfInBounds_toArray, List.set_cons_zero, List.set_cons_succ, List.getElem_toArray, List.getElem_cons_zero, List.getElem_cons_succ])
  refine wpAnyH_take (i := 20) (oi := _) (v := undef) rfl (by kernel_rfl) (by kernel_rfl) (by kernel_rfl) (fun _ _ _ h => h) (Or.inr ⟨by rfl, rfl⟩) (by assumption) ?_
  (try simp only [Act.put, List.setIfInBounds_toArray, List.set_cons_zero, List.set_cons_succ, List.getElem_toArray, List.getElem_cons_zero, List.getElem_cons_succ])
  refine wpAnyH_take (i := 21) (oi := _) (v := undef) rfl (by kernel_rfl) (by kernel_rfl) (by kernel_rfl) (fun _ _ _ h => h) (Or.inr ⟨by rfl, rfl⟩) (by assumption) ?_
  (try simp only [Act.put, List.setIfInBounds_toArray, List.set_cons_zero, List.set_cons_succ, List.getElem_toArray, List.getElem_cons_zero, List.getElem_cons_succ])
  refine wpAnyH_take (i := 22) (oi := _) (v := undef) rfl (by kernel_rfl) (by kernel_rfl) (by kernel_rfl) (fun _ _ _ h => h) (Or.inr ⟨by rfl, rfl⟩) (by assumption) ?_
  (try simp only [Act.put, List.setIfInBounds_toArray, List.set_cons_zero, List.set_cons_succ, List.getElem_toArray, List.getElem_cons_zero, List.getElem_cons_succ])
  refine wpAnyH_take (i := 23) (oi := _) (v := undef) rfl (by kernel_rfl) (by kernel_rfl) (by kernel_rfl) (fun _ _ _ h => h) (Or.inr ⟨by rfl, rfl⟩) (by assumption) ?_
  (try simp only [Act.put, List.setIfInBounds_toArray, List.set_cons_zero, List.set_cons_succ, List.getElem_toArray, List.getElem_cons_zero, List.getElem_cons_succ])
  refine wpAnyH_take (i := 24) (oi := _) (v := undef) rfl (by kernel_rfl) (by kernel_rfl) (by kernel_rfl) (fun _ _ _ h => h) (Or.inr ⟨by rfl, rfl⟩) (by assumption) ?_
  (try simp only [Act.put, List.setIfInBounds_toArray, List.set_cons_zero, List.set_cons_succ, List.getElem_toArray, List.getElem_cons_zero, List.getElem_cons_succ])
  refine wpAnyH_take (i := 25) (oi := _) (v := undef) rfl (by kernel_rfl) (by kernel_rfl) (by kernel_rfl) (fun _ _ _ h => h) (Or.inr ⟨by rfl, rfl⟩) (by assumption) ?_
  (try simp only [Act.put, List.setIfInBounds_toArray, List.set_cons_zero, List.set_cons_succ, List.getElem_toArray, List.getElem_cons_zero, List.getElem_cons_succ])
  refine wpAnyH_take (i := 26) (oi := _) (v := undef) rfl (by kernel_rfl) (by kernel_rfl) (by kernel_rfl) (fun _ _ _ h => h) (Or.inr ⟨by rfl, rfl⟩) (by assumption) ?_
  (try simp only [Act.put, List.setIfInBounds_toArray, List.set_cons_zero, List.set_cons_succ, List.getElem_toArray, List.getElem_cons_zero, List.getElem_cons_succ])
  refine wpAnyH_take (i := 27) (oi := _) (v := undef) rfl (by kernel_rfl) (by kernel_rfl) (by kernel_rfl) (fun _ _ _ h => h) (Or.inr ⟨by rfl, rfl⟩) (by assumption) ?_
  (try simp only [Act.put, List.setIfInBounds_toArray, List.set_cons_zero, List.set_cons_succ, List.getElem_toArray, List.getElem_cons_zero, List.getElem_cons_succ])
  refine wpAnyH_take (i := 28) (oi := _) (v := undef) rfl (by kernel_rfl) (by kernel_rfl) (by kernel_rfl) (fun _ _ _ h => h) (Or.inr ⟨by rfl, rfl⟩) (by assumption) ?_
  (try simp only [Act.put, List.setIfInBounds_toArray, List.set_cons_zero, List.set_cons_succ, List.getElem_toArray, List.getElem_cons_zero, List.getElem_cons_succ])
  refine wpAnyH_take (i := 29) (oi := _) (v := undef) rfl (by kernel_rfl) (by kernel_rfl) (by kernel_rfl) (fun _ _ _ h => h) (Or.inr ⟨by rfl, rfl⟩) (by assumption) ?_
  (try simp only [Act.put, List.setIfInBounds_toArray, List.set_cons_zero, List.set_cons_succ, List.getElem_toArray, List.getElem_cons_zero, List.getElem_cons_succ])
  refine wpAnyH_take (i := 30) (oi := _) (v := ?_) rfl (by kernel_rfl) (by kernel_rfl) (by kernel_rfl) (fun _ _ _ h => h) (Or.inl ⟨by rfl, ?_⟩) (by assumption) ?_
  rotate_left
  focus ((intro w hSw; (try dsimp only at hSw); go_simp; try with_reducible rfl); done)
  (try simp only [Act.put, List.setIfInBounds_toArray, List.set_cons_zero, List.set_cons_succ, List.getElem_toArray, List.getElem_cons_zero, List.getElem_cons_succ])
  refine wpAnyH_take (i := 31) (oi := _) (v := ?_) rfl (by kernel_rfl) (by kernel_rfl) (by kernel_rfl) (fun _ _ _ h => h) (Or.inl ⟨by rfl, ?_⟩) (by assumption) ?_
  rotate_left
  focus ((intro w hSw; (try dsimp only at hSw); go_simp; try with_reducible rfl); done)
  (try simp only [Act.put, List.setIfInBounds_toArray, List.set_cons_zero, List.set_cons_succ, List.getElem_toArray, List.getElem_cons_zero, List.getElem_cons_succ])
  refine wpAnyH_done (by kernel_rfl) ?_ _
  have hAe := hHeld1.2
  obtain ⟨y0, y1, y2⟩ := (HRB.out _ hAe).facts
  have kB := fun W hA => begins_full r c o l k s (.slice (some ⟨g, 0, none⟩) (i + 1) fc) fs t1 t2 t3 N x.row.name w0 W (HO.out W hA) hful
  clear hful
  go_wp2_with (first
    | (go_at_call 121; (with_reducible refine (kK _ hAe).mono ?_); rintro e w4 ⟨rfl, hA5⟩; have hAf := hAe.trans hA5; obtain ⟨z0, z1, z2⟩ := (HRB.out _ hAf).facts)
    | (go_at_call 122; (with_reducible refine (kB _ hAf).mono ?_); rintro e w5 ⟨rfl, hA6⟩; have hAg := hAf.trans hA6; obtain ⟨v0, v1, v2⟩ := (HRB.out _ hAg).facts; have hRd := (HO.out _ hAg).rd)
    | (go_at_call 76; (with_reducible refine (kF _ hRd).mono ?_); rintro e w6 ⟨rfl, h4, hA7⟩))
  go_ret
  exact ⟨rfl, ⟨_, _, _, _, _, h4⟩, (HO.out _ hAg).aw.trans hA7⟩
end
section
set_option maxRecDepth 100000 in
set_option maxHeartbeats 6400000 in
theorem named_new1 (r : Nat) (c o l k : Int) (s : ByteArray) (fv : Value) (fs : List VFam) (t1 t2 t3 : Bool) (N : Nat) (x : VRow) (w0 w : World) (h : OA w0 w r c o l k s fv fs t1 t2 t3 N) (hx : x.row.name.size ≤ 60)
    (hkn : knownO (fs.map VFam.fam) x.row.name.data.toList = false) (hlt : fs.length < 30) (hk : x.row.kind = 1) :
    Calls Tryz.prog 81 #[.pointer (some ⟨r, 0, none⟩), .agg #[.int .i64 x.row.kind, .string x.row.name, .int .i64 x.row.off, .slice x.tA x.row.tags.length x.tc, .slice x.fA x.row.fields.length x.fc, .string x.row.text, .int .i64 x.row.pos, .bool x.row.timed, .string x.row.time, .int .i64 x.row.when_]] w fun e w' => e = .returned (.bool true) ∧ ∃ fv', OA w0 w' r c o l k s fv' (fs ++ [vnew x.row.name]) true false false N ∧ Keep r w w' := by
  have hkz : (x.row.kind : Int) = 1 := by rw [hk]; rfl
  rw [hkz]
  have h1 := h.alloc (.cells #[.int .i64 1, .string x.row.name, .int .i64 x.row.off, .slice x.tA x.row.tags.length x.tc, .slice x.fA x.row.fields.length x.fc, .string x.row.text, .int .i64 x.row.pos, .bool x.row.timed, .string x.row.time, .int .i64 x.row.when_] 43)
  have hR : RowAt (w.alloc (.cells #[.int .i64 1, .string x.row.name, .int .i64 x.row.off, .slice x.tA x.row.tags.length x.tc, .slice x.fA x.row.fields.length x.fc, .string x.row.text, .int .i64 x.row.pos, .bool x.row.timed, .string x.row.time, .int .i64 x.row.when_] 43)) w.heap.size x := by
    unfold RowAt
    rw [hkz]
    exact Blk.new w 43 #[.int .i64 1, .string x.row.name, .int .i64 x.row.off, .slice x.tA x.row.tags.length x.tc, .slice x.fA x.row.fields.length x.fc, .string x.row.text, .int .i64 x.row.pos, .bool x.row.timed, .string x.row.time, .int .i64 x.row.when_]
  obtain ⟨p, _, _, kS⟩ := stands_any r c o l k s fv fs t1 t2 t3 N w0 _ h1 (by omega)
  have d1 : decide ((60 : Int) < (x.row.name.size : Int)) = false := decide_eq_false (by omega)
  have d1n : decide (60 < x.row.name.size) = false := decide_eq_false (by omega)
  have hrb : w.heap.size ≠ r := by have := h.rd.lt; omega
  clear h
  go_enter Tryz.func81, Tryz.ntmps81
  go_upto_region 4 with (
    (go_at_call 75; (with_reducible refine kS.mono ?_); rintro e w2 ⟨rfl, hA2⟩; have h2 := h1.call hA2; have hR2 := hR.aw hA2 (by simp); obtain ⟨e0, e1, e2⟩ := hR2.facts; rw [hkz] at e0))
  have hS0 : (w2.drew.cell? ⟨w.heap.size, 1, none⟩ = some (.string x.row.name)) ∧ Aw [] w2.drew w2.drew := ⟨e1, Aw.refl [] _⟩
  have kK := fun W hA => known_any r c o l k s fv fs t1 t2 t3 N x.row.name w0 W (h2.drew.call hA) (by omega)
  rw [hkn] at kK
  have HO : Hid (∀ W, Aw [] w2.drew W → OA w0 W r c o l k s fv fs t1 t2 t3 N) := Lib.hid (fun W hA => h2.drew.call hA)
  have HRB : Hid (∀ W, Aw [] w2.drew W → RowAt W w.heap.size x) := Lib.hid (fun W hA => (hR2.aw (Aw.refl [] w2).drew (by simp)).aw hA (by simp))
  have HKP : Hid (∀ W, Aw [] w2.drew W → Keep r w W) := Lib.hid (fun W hA b t cs hB _ _ => Blk.aw (Blk.aw (Blk.aw (Blk.alloc hB _) hA2 (by simp)) (Aw.refl [] w2).drew (by simp)) hA (by simp))
  clear kS h1 hR h2 hR2 hA2 e0 e1 e2 hkn hk
  refine wp_region_held_drew (S := (fun w' => (w'.cell? ⟨w.heap.size, 1, none⟩ = some (.string x.row.name)) ∧ Aw [] w2.drew w')) (by kernel_rfl) ?_ (fun hHeld0 => ?_)
  · (try dsimp only); (first | exact hS0 | assumption)
  refine wpAnyH_take (i := 0) (oi := _) (v := ?_) rfl (by kernel_rfl) (by kernel_rfl) (by kernel_rfl) (fun _ _ _ h => h) (Or.inl ⟨by rfl, ?_⟩) (by assumption) ?_
  rotate_left
  focus ((intro w hSw; (try dsimp only at hSw); go_simp; try with_reducible rfl); done)
  (try simp only [Act.put, List.setIfInBounds_toArray, List.set_cons_zero, List.set_cons_succ, List.getElem_toArray, List.getElem_cons_zero, List.getElem_cons_succ])
  refine wpAnyH_take (i := 1) (oi := _) (v := ?_) rfl (by kernel_rfl) (by kernel_rfl) (by kernel_rfl) (fun _ _ _ h => h) (Or.inl ⟨by rfl, ?_⟩) (by assumption) ?_
  rotate_left
  focus ((intro w hSw; (try dsimp only at hSw); go_simp; try with_reducible rfl); done)
  (try simp only [Act.put, List.setIfInBounds_toArray, List.set_cons_zero, List.set_cons_succ, List.getElem_toArray, List.getElem_cons_zero, List.getElem_cons_succ])
  refine wpAnyH_take (i := 2) (oi := _) (v := ?_) rfl (by kernel_rfl) (by kernel_rfl) (by kernel_rfl) (fun _ _ _ h => h) (Or.inl ⟨by rfl, ?_⟩) (by assumption) ?_
  rotate_left
  focus ((intro w hSw; (try dsimp only at hSw); go_simp; try with_reducible rfl); done)
  (try simp only [Act.put, List.setIfInBounds_toArray, List.set_cons_zero, List.set_cons_succ, List.getElem_toArray, List.getElem_cons_zero, List.getElem_cons_succ])
  refine wpAnyH_ready (rs := [3]) (by kernel_rfl) (by simp) ?_
  refine AllReadyH.cons (o := _) rfl (fun K hK => ?_) AllReadyH.nil
  go_simp
  go_wp2_with (go_at_call 121; (with_reducible refine (kK _ (by first | assumption | exact Aw.refl [] _)).mono ?_); rintro e w3 ⟨rfl, hA3⟩; obtain ⟨_, hcur⟩ := ‹_ ∧ Aw [] w2.drew _›; have hA4 := hcur.trans hA3; have hS3 := And.intro (HRB.out _ hA4).facts.2.1 hA4)
  refine hK.out _ _ ?_ (fun hHeld1 => ?_)
  · (try dsimp only); (first | exact hS0 | assumption)
  clear hK K
  (try simp only [Act.put, List.setIfInBounds_toArray, List.set_cons_zero, List.set_cons_succ, List.getElem_toArray, List.getElem_cons_zero, List.getElem_cons_succ])
  refine wpAnyH_take (i := 4) (oi := _) (v := ?_) rfl (by kernel_rfl) (by kernel_rfl) (by kernel_rfl) (fun _ _ _ h => h) (Or.inl ⟨by rfl, ?_⟩) (by assumption) ?_
  rotate_left
  focus ((intro w hSw; (try dsimp only at hSw); go_simp; try with_reducible rfl); done)
  (try simp only [Act.put, List.setIfInBounds_toArray, List.set_cons_zero, List.set_cons_succ, List.getElem_toArray, List.getElem_cons_zero, List.getElem_cons_succ])
  refine wpAnyH_take (i := 5) (oi := _) (v := undef) rfl (by kernel_rfl) (by kernel_rfl) (by kernel_rfl) (fun _ _ _ h => h) (Or.inr ⟨by rfl, rfl⟩) (by assumption) ?_
  (try simp only [Act.put, List.setIfInBounds_toArray, List.set_cons_zero, List.set_cons_succ, List.getElem_toArray, List.getElem_cons_zero, List.getElem_cons_succ])
  refine wpAnyH_take (i := 6) (oi := _) (v := undef) rfl (by kernel_rfl) (by kernel_rfl) (by kernel_rfl) (fun _ _ _ h => h) (Or.inr ⟨by rfl, rfl⟩) (by assumption) ?_
  (try simp only [Act.put, List.setIfInBounds_toArray, List.set_cons_zero, List.set_cons_succ, List.getElem_toArray, List.getElem_cons_zero, List.getElem_cons_succ])
  refine wpAnyH_take (i := 7) (oi := _) (v := undef) rfl (by kernel_rfl) (by kernel_rfl) (by kernel_rfl) (fun _ _ _ h => h) (Or.inr ⟨by rfl, rfl⟩) (by assumption) ?_
  (try simp only [Act.put, List.setIfInBounds_toArray, List.set_cons_zero, List.set_cons_succ, List.getElem_toArray, List.getElem_cons_zero, List.getElem_cons_succ])
  refine wpAnyH_take (i := 8) (oi := _) (v := undef) rfl (by kernel_rfl) (by kernel_rfl) (by kernel_rfl) (fun _ _ _ h => h) (Or.inr ⟨by rfl, rfl⟩) (by assumption) ?_
  (try simp only [Act.put, List.setIfInBounds_toArray, List.set_cons_zero, List.set_cons_succ, List.getElem_toArray, List.getElem_cons_zero, List.getElem_cons_succ])
  refine wpAnyH_take (i := 9) (oi := _) (v := undef) rfl (by kernel_rfl) (by kernel_rfl) (by kernel_rfl) (fun _ _ _ h => h) (Or.inr ⟨by rfl, rfl⟩) (by assumption) ?_
  (try simp only [Act.put, List.setIfInBounds_toArray, List.set_cons_zero, List.set_cons_succ, List.getElem_toArray, List.getElem_cons_zero, List.getElem_cons_succ])
  refine wpAnyH_take (i := 10) (oi := _) (v := undef) rfl (by kernel_rfl) (by kernel_rfl) (by kernel_rfl) (fun _ _ _ h => h) (Or.inr ⟨by rfl, rfl⟩) (by assumption) ?_
  (try simp only [Act.put, List.setIfInBounds_toArray, List.set_cons_zero, List.set_cons_succ, List.getElem_toArray, List.getElem_cons_zero, List.getElem_cons_succ])
  refine wpAnyH_take (i := 11) (oi := _) (v := undef) rfl (by kernel_rfl) (by kernel_rfl) (by kernel_rfl) (fun _ _ _ h => h) (Or.inr ⟨by rfl, rfl⟩) (by assumption) ?_
  (try simp only [Act.put, List.setIfInBounds_toArray, List.set_cons_zero, List.set_cons_succ, List.getElem_toArray, List.getElem_cons_zero, List.getElem_cons_succ])
  refine wpAnyH_take (i := 12) (oi := _) (v := undef) rfl (by kernel_rfl) (by kernel_rfl) (by kernel_rfl) (fun _ _ _ h => h) (Or.inr ⟨by rfl, rfl⟩) (by assumption) ?_
  (try simp only [Act.put, List.setIfInBounds_toArray, List.set_cons_zero, List.set_cons_succ, List.getElem_toArray, List.getElem_cons_zero, List.getElem_cons_succ])
  refine wpAnyH_take (i := 13) (oi := _) (v := undef) rfl (by kernel_rfl) (by kernel_rfl) (by kernel_rfl) (fun _ _ _ h => h) (Or.inr ⟨by rfl, rfl⟩) (by assumption) ?_
  (try simp only [Act.put, List.setIfInBounds_toArray, List.set_cons_zero, List.set_cons_succ, List.getElem_toArray, List.getElem_cons_zero, List.getElem_cons_succ])
  refine wpAnyH_take (i := 14) (oi := _) (v := undef) rfl (by kernel_rfl) (by kernel_rfl) (by kernel_rfl) (fun _ _ _ h => h) (Or.inr ⟨by rfl, rfl⟩) (by assumption) ?_
  (try simp only [Act.put, List.setIfInBounds_toArray, List.set_cons_zero, List.set_cons_succ, List.getElem_toArray, List.getElem_cons_zero, List.getElem_cons_succ])
  refine wpAnyH_take (i := 15) (oi := _) (v := undef) rfl (by kernel_rfl) (by kernel_rfl) (by kernel_rfl) (fun _ _ _ h => h) (Or.inr ⟨by rfl, rfl⟩) (by assumption) ?_
  (try simp only [Act.put, List.setIfInBounds_toArray, List.set_cons_zero, List.set_cons_succ, List.getElem_toArray, List.getElem_cons_zero, List.getElem_cons_succ])
  refine wpAnyH_take (i := 16) (oi := _) (v := undef) rfl (by kernel_rfl) (by kernel_rfl) (by kernel_rfl) (fun _ _ _ h => h) (Or.inr ⟨by rfl, rfl⟩) (by assumption) ?_
  (try simp only [Act.put, List.setIfInBounds_toArray, List.set_cons_zero, List.set_cons_succ, List.getElem_toArray, List.getElem_cons_zero, List.getElem_cons_succ])
  refine wpAnyH_take (i := 17) (oi := _) (v := undef) rfl (by kernel_rfl) (by kernel_rfl) (by kernel_rfl) (fun _ _ _ h => h) (Or.inr ⟨by rfl, rfl⟩) (by assumption) ?_
  (try simp only [Act.put, List.setIfInBounds_toArray, List.set_cons_zero, List.set_cons_succ, List.getElem_toArray, List.getElem_cons_zero, List.getElem_cons_succ])
  refine wpAnyH_take (i := 18) (oi := _) (v := undef) rfl (by kernel_rfl) (by kernel_rfl) (by kernel_rfl) (fun _ _ _ h => h) (Or.inr ⟨by rfl, rfl⟩) (by assumption) ?_
  (try simp only [Act.put, List.setIfInBounds_toArray, List.set_cons_zero, List.set_cons_succ, List.getElem_toArray, List.getElem_cons_zero, List.getElem_cons_succ])
  refine wpAnyH_take (i := 19) (oi := _) (v := undef) rfl (by kernel_rfl) (by kernel_rfl) (by kernel_rfl) (fun _ _ _ h => h) (Or.inr ⟨by rfl, rfl⟩) (by assumption) ?_
  (try simp only [Act.put, List.setIfInBounds_toArray, List.set_cons_zero, List.set_cons_succ, List.getElem_toArray, List.getElem_cons_zero, List.getElem_cons_succ])
  refine wpAnyH_take (i := 20) (oi := _) (v := undef) rfl (by kernel_rfl) (by kernel_rfl) (by kernel_rfl) (fun _ _ _ h => h) (Or.inr ⟨by rfl, rfl⟩) (by assumption) ?_
  (try simp only [Act.put, List.setIfInBounds_toArray, List.set_cons_zero, List.set_cons_succ, List.getElem_toArray, List.getElem_cons_zero, List.getElem_cons_succ])
  refine wpAnyH_take (i := 21) (oi := _) (v := undef) rfl (by kernel_rfl) (by kernel_rfl) (by kernel_rfl) (fun _ _ _ h => h) (Or.inr ⟨by rfl, rfl⟩) (by assumption) ?_
  (try simp only [Act.put, List.setIfInBounds_toArray, List.set_cons_zero, List.set_cons_succ, List.getElem_toArray, List.getElem_cons_zero, List.getElem_cons_succ])
  refine wpAnyH_take (i := 22) (oi := _) (v := undef) rfl (by kernel_rfl) (by kernel_rfl) (by kernel_rfl) (fun _ _ _ h => h) (Or.inr ⟨by rfl, rfl⟩) (by assumption) ?_
  (try simp only [Act.put, List.setIfInBounds_toArray, List.set_cons_zero, List.set_cons_succ, List.getElem_toArray, List.getElem_cons_zero, List.getElem_cons_succ])
  refine wpAnyH_take (i := 23) (oi := _) (v := undef) rfl (by kernel_rfl) (by kernel_rfl) (by kernel_rfl) (fun _ _ _ h => h) (Or.inr ⟨by rfl, rfl⟩) (by assumption) ?_
  (try simp only [Act.put, List.setIfInBounds_toArray, List.set_cons_zero, List.set_cons_succ, List.getElem_toArray, List.getElem_cons_zero, List.getElem_cons_succ])
  refine wpAnyH_take (i := 24) (oi := _) (v := undef) rfl (by kernel_rfl) (by kernel_rfl) (by kernel_rfl) (fun _ _ _ h => h) (Or.inr ⟨by rfl, rfl⟩) (by assumption) ?_
  (try simp only [Act.put, List.setIfInBounds_toArray, List.set_cons_zero, List.set_cons_succ, List.getElem_toArray, List.getElem_cons_zero, List.getElem_cons_succ])
  refine wpAnyH_take (i := 25) (oi := _) (v := undef) rfl (by kernel_rfl) (by kernel_rfl) (by kernel_rfl) (fun _ _ _ h => h) (Or.inr ⟨by rfl, rfl⟩) (by assumption) ?_
  (try simp only [Act.put, List.setIfInBounds_toArray, List.set_cons_zero, List.set_cons_succ, List.getElem_toArray, List.getElem_cons_zero, List.getElem_cons_succ])
  refine wpAnyH_take (i := 26) (oi := _) (v := undef) rfl (by kernel_rfl) (by kernel_rfl) (by kernel_rfl) (fun _ _ _ h => h) (Or.inr ⟨by rfl, rfl⟩) (by assumption) ?_
  (try simp only [Act.put, List.setIfInBounds_toArray, List.set_cons_zero, List.set_cons_succ, List.getElem_toArray, List.getElem_cons_zero, List.getElem_cons_succ])
  refine wpAnyH_take (i := 27) (oi := _) (v := undef) rfl (by kernel_rfl) (by kernel_rfl) (by kernel_rfl) (fun _ _ _ h => h) (Or.inr ⟨by rfl, rfl⟩) (by assumption) ?_
  (try simp only [Act.put, List.setIfInBounds_toArray, List.set_cons_zero, List.set_cons_succ, List.getElem_toArray, List.getElem_cons_zero, List.getElem_cons_succ])
  refine wpAnyH_take (i := 28) (oi := _) (v := undef) rfl (by kernel_rfl) (by kernel_rfl) (by kernel_rfl) (fun _ _ _ h => h) (Or.inr ⟨by rfl, rfl⟩) (by assumption) ?_
  (try simp only [Act.put, List.setIfInBounds_toArray, List.set_cons_zero, List.set_cons_succ, List.getElem_toArray, List.getElem_cons_zero, List.getElem_cons_succ])
  refine wpAnyH_take (i := 29) (oi := _) (v := undef) rfl (by kernel_rfl) (by kernel_rfl) (by kernel_rfl) (fun _ _ _ h => h) (Or.inr ⟨by rfl, rfl⟩) (by assumption) ?_
  (try simp only [Act.put, List.setIfInBounds_toArray, List.set_cons_zero, List.set_cons_succ, List.getElem_toArray, List.getElem_cons_zero, List.getElem_cons_succ])
  refine wpAnyH_take (i := 30) (oi := _) (v := ?_) rfl (by kernel_rfl) (by kernel_rfl) (by kernel_rfl) (fun _ _ _ h => h) (Or.inl ⟨by rfl, ?_⟩) (by assumption) ?_
  rotate_left
  focus ((intro w hSw; (try dsimp only at hSw); go_simp; try with_reducible rfl); done)
  (try simp only [Act.put, List.setIfInBounds_toArray, List.set_cons_zero, List.set_cons_succ, List.getElem_toArray, List.getElem_cons_zero, List.getElem_cons_succ])
  refine wpAnyH_take (i := 31) (oi := _) (v := ?_) rfl (by kernel_rfl) (by kernel_rfl) (by kernel_rfl) (fun _ _ _ h => h) (Or.inl ⟨by rfl, ?_⟩) (by assumption) ?_
  rotate_left
  focus ((intro w hSw; (try dsimp only at hSw); go_simp; try with_reducible rfl); done)
  (try simp only [Act.put, List.setIfInBounds_toArray, List.set_cons_zero, List.set_cons_succ, List.getElem_toArray, List.getElem_cons_zero, List.getElem_cons_succ])
  refine wpAnyH_done (by kernel_rfl) ?_ _
  have hAe := hHeld1.2
  obtain ⟨y0, y1, y2⟩ := (HRB.out _ hAe).facts
  have kB := fun W hA => begins_any r c o l k s fv fs t1 t2 t3 N x.row.name w0 W (HO.out W hA) hlt
  clear hlt
  go_upto_region 8 with (first
    | (go_at_call 121; (with_reducible refine (kK _ hAe).mono ?_); rintro e w4 ⟨rfl, hA5⟩; have hAf := hAe.trans hA5; obtain ⟨z0, z1, z2⟩ := (HRB.out _ hAf).facts)
    | (go_at_call 122; (with_reducible refine (kB _ hAf).mono ?_); rintro e w5 ⟨rfl, fv', hOf, hKB⟩))
  have HKQ : Hid (Keep r w w5) := Lib.hid (fun b t cs hB hbr ht => hKB b t cs (HKP.out _ hAf b t cs hB hbr ht) hbr ht)
  have hRf : RowAt w5 w.heap.size x := hKB _ _ _ (HRB.out _ hAf) hrb (by decide)
  obtain ⟨q0, q1, q2⟩ := hRf.facts
  rw [hkz] at q0
  obtain ⟨⟨_, _, _, _, _, _, u6, u7, u8, u9, _⟩, f⟩ := hOf.rd.facts
  have fK := f 7
  clear f kK HO HRB hS0 hHeld0 hHeld1 hAe y0 y1 y2 hKB
  go_region
  all_goals go_wp2_with fail
  go_ret
  exact ⟨rfl, fv', ⟨Blk.set_ hOf.drew.rd 7 (.bool true), hOf.drew.fams.far hOf.drew.rd (by decide) (by decide) (by decide) 7 _, hOf.drew.aw.setCell (.inl (by simp)) _, hOf.rl⟩, fun b t cs hB hbr ht => Blk.far (Blk.drew (HKQ.out b t cs hB hbr ht)) (p := ⟨r, 7, none⟩) hbr _⟩
set_option maxRecDepth 100000 in
set_option maxHeartbeats 6400000 in
theorem named_new2 (r : Nat) (c o l k : Int) (s : ByteArray) (fv : Value) (fs : List VFam) (t1 t2 t3 : Bool) (N : Nat) (x : VRow) (w0 w : World) (h : OA w0 w r c o l k s fv fs t1 t2 t3 N) (hx : x.row.name.size ≤ 60)
    (hkn : knownO (fs.map VFam.fam) x.row.name.data.toList = false) (hlt : fs.length < 30) (hk : x.row.kind = 2) :
    Calls Tryz.prog 81 #[.pointer (some ⟨r, 0, none⟩), .agg #[.int .i64 x.row.kind, .string x.row.name, .int .i64 x.row.off, .slice x.tA x.row.tags.length x.tc, .slice x.fA x.row.fields.length x.fc, .string x.row.text, .int .i64 x.row.pos, .bool x.row.timed, .string x.row.time, .int .i64 x.row.when_]] w fun e w' => e = .returned (.bool true) ∧ ∃ fv', OA w0 w' r c o l k s fv' (fs ++ [vnew x.row.name]) false true false N ∧ Keep r w w' := by
  have hkz : (x.row.kind : Int) = 2 := by rw [hk]; rfl
  rw [hkz]
  have h1 := h.alloc (.cells #[.int .i64 2, .string x.row.name, .int .i64 x.row.off, .slice x.tA x.row.tags.length x.tc, .slice x.fA x.row.fields.length x.fc, .string x.row.text, .int .i64 x.row.pos, .bool x.row.timed, .string x.row.time, .int .i64 x.row.when_] 43)
  have hR : RowAt (w.alloc (.cells #[.int .i64 2, .string x.row.name, .int .i64 x.row.off, .slice x.tA x.row.tags.length x.tc, .slice x.fA x.row.fields.length x.fc, .string x.row.text, .int .i64 x.row.pos, .bool x.row.timed, .string x.row.time, .int .i64 x.row.when_] 43)) w.heap.size x := by
    unfold RowAt
    rw [hkz]
    exact Blk.new w 43 #[.int .i64 2, .string x.row.name, .int .i64 x.row.off, .slice x.tA x.row.tags.length x.tc, .slice x.fA x.row.fields.length x.fc, .string x.row.text, .int .i64 x.row.pos, .bool x.row.timed, .string x.row.time, .int .i64 x.row.when_]
  obtain ⟨p, _, _, kS⟩ := stands_any r c o l k s fv fs t1 t2 t3 N w0 _ h1 (by omega)
  have d1 : decide ((60 : Int) < (x.row.name.size : Int)) = false := decide_eq_false (by omega)
  have d1n : decide (60 < x.row.name.size) = false := decide_eq_false (by omega)
  have hrb : w.heap.size ≠ r := by have := h.rd.lt; omega
  clear h
  go_enter Tryz.func81, Tryz.ntmps81
  go_upto_region 4 with (
    (go_at_call 75; (with_reducible refine kS.mono ?_); rintro e w2 ⟨rfl, hA2⟩; have h2 := h1.call hA2; have hR2 := hR.aw hA2 (by simp); obtain ⟨e0, e1, e2⟩ := hR2.facts; rw [hkz] at e0))
  have hS0 : (w2.drew.cell? ⟨w.heap.size, 1, none⟩ = some (.string x.row.name)) ∧ Aw [] w2.drew w2.drew := ⟨e1, Aw.refl [] _⟩
  have kK := fun W hA => known_any r c o l k s fv fs t1 t2 t3 N x.row.name w0 W (h2.drew.call hA) (by omega)
  rw [hkn] at kK
  have HO : Hid (∀ W, Aw [] w2.drew W → OA w0 W r c o l k s fv fs t1 t2 t3 N) := Lib.hid (fun W hA => h2.drew.call hA)
  have HRB : Hid (∀ W, Aw [] w2.drew W → RowAt W w.heap.size x) := Lib.hid (fun W hA => (hR2.aw (Aw.refl [] w2).drew (by simp)).aw hA (by simp))
  have HKP : Hid (∀ W, Aw [] w2.drew W → Keep r w W) := Lib.hid (fun W hA b t cs hB _ _ => Blk.aw (Blk.aw (Blk.aw (Blk.alloc hB _) hA2 (by simp)) (Aw.refl [] w2).drew (by simp)) hA (by simp))
  clear kS h1 hR h2 hR2 hA2 e0 e1 e2 hkn hk
  refine wp_region_held_drew (S := (fun w' => (w'.cell? ⟨w.heap.size, 1, none⟩ = some (.string x.row.name)) ∧ Aw [] w2.drew w')) (by kernel_rfl) ?_ (fun hHeld0 => ?_)
  · (try dsimp only); (first | exact hS0 | assumption)
  refine wpAnyH_take (i := 0) (oi := _) (v := ?_) rfl (by kernel_rfl) (by kernel_rfl) (by kernel_rfl) (fun _ _ _ h => h) (Or.inl ⟨by rfl, ?_⟩) (by assumption) ?_
  rotate_left
  focus ((intro w hSw; (try dsimp only at hSw); go_simp; try with_reducible rfl); done)
  (try simp only [Act.put, List.setIfInBounds_toArray, List.set_cons_zero, List.set_cons_succ, List.getElem_toArray, List.getElem_cons_zero, List.getElem_cons_succ])
  refine wpAnyH_take (i := 1) (oi := _) (v := ?_) rfl (by kernel_rfl) (by kernel_rfl) (by kernel_rfl) (fun _ _ _ h => h) (Or.inl ⟨by rfl, ?_⟩) (by assumption) ?_
  rotate_left
  focus ((intro w hSw; (try dsimp only at hSw); go_simp; try with_reducible rfl); done)
  (try simp only [Act.put, List.setIfInBounds_toArray, List.set_cons_zero, List.set_cons_succ, List.getElem_toArray, List.getElem_cons_zero, List.getElem_cons_succ])
  refine wpAnyH_take (i := 2) (oi := _) (v := ?_) rfl (by kernel_rfl) (by kernel_rfl) (by kernel_rfl) (fun _ _ _ h => h) (Or.inl ⟨by rfl, ?_⟩) (by assumption) ?_
  rotate_left
  focus ((intro w hSw; (try dsimp only at hSw); go_simp; try with_reducible rfl); done)
  (try simp only [Act.put, List.setIfInBounds_toArray, List.set_cons_zero, List.set_cons_succ, List.getElem_toArray, List.getElem_cons_zero, List.getElem_cons_succ])
  refine wpAnyH_ready (rs := [3]) (by kernel_rfl) (by simp) ?_
  refine AllReadyH.cons (o := _) rfl (fun K hK => ?_) AllReadyH.nil
  go_simp
  go_wp2_with (go_at_call 121; (with_reducible refine (kK _ (by first | assumption | exact Aw.refl [] _)).mono ?_); rintro e w3 ⟨rfl, hA3⟩; obtain ⟨_, hcur⟩ := ‹_ ∧ Aw [] w2.drew _›; have hA4 := hcur.trans hA3; have hS3 := And.intro (HRB.out _ hA4).facts.2.1 hA4)
  refine hK.out _ _ ?_ (fun hHeld1 => ?_)
  · (try dsimp only); (first | exact hS0 | assumption)
  clear hK K
  (try simp only [Act.put, List.setIfInBounds_toArray, List.set_cons_zero, List.set_cons_succ, List.getElem_toArray, List.getElem_cons_zero, List.getElem_cons_succ])
  refine wpAnyH_take (i := 4) (oi := _) (v := ?_) rfl (by kernel_rfl) (by kernel_rfl) (by kernel_rfl) (fun _ _ _ h => h) (Or.inl ⟨by rfl, ?_⟩) (by assumption) ?_
  rotate_left
  focus ((intro w hSw; (try dsimp only at hSw); go_simp; try with_reducible rfl); done)
  (try simp only [Act.put, List.setIfInBounds_toArray, List.set_cons_zero, List.set_cons_succ, List.getElem_toArray, List.getElem_cons_zero, List.getElem_cons_succ])
  refine wpAnyH_take (i := 5) (oi := _) (v := undef) rfl (by kernel_rfl) (by kernel_rfl) (by kernel_rfl) (fun _ _ _ h => h) (Or.inr ⟨by rfl, rfl⟩) (by assumption) ?_
  (try simp only [Act.put, List.setIfInBounds_toArray, List.set_cons_zero, List.set_cons_succ, List.getElem_toArray, List.getElem_cons_zero, List.getElem_cons_succ])
  refine wpAnyH_take (i := 6) (oi := _) (v := undef) rfl (by kernel_rfl) (by kernel_rfl) (by kernel_rfl) (fun _ _ _ h => h) (Or.inr ⟨by rfl, rfl⟩) (by assumption) ?_
  (try simp only [Act.put, List.setIfInBounds_toArray, List.set_cons_zero, List.set_cons_succ, List.getElem_toArray, List.getElem_cons_zero, List.getElem_cons_succ])
  refine wpAnyH_take (i := 7) (oi := _) (v := undef) rfl (by kernel_rfl) (by kernel_rfl) (by kernel_rfl) (fun _ _ _ h => h) (Or.inr ⟨by rfl, rfl⟩) (by assumption) ?_
  (try simp only [Act.put, List.setIfInBounds_toArray, List.set_cons_zero, List.set_cons_succ, List.getElem_toArray, List.getElem_cons_zero, List.getElem_cons_succ])
  refine wpAnyH_take (i := 8) (oi := _) (v := undef) rfl (by kernel_rfl) (by kernel_rfl) (by kernel_rfl) (fun _ _ _ h => h) (Or.inr ⟨by rfl, rfl⟩) (by assumption) ?_
  (try simp only [Act.put, List.setIfInBounds_toArray, List.set_cons_zero, List.set_cons_succ, List.getElem_toArray, List.getElem_cons_zero, List.getElem_cons_succ])
  refine wpAnyH_take (i := 9) (oi := _) (v := undef) rfl (by kernel_rfl) (by kernel_rfl) (by kernel_rfl) (fun _ _ _ h => h) (Or.inr ⟨by rfl, rfl⟩) (by assumption) ?_
  (try simp only [Act.put, List.setIfInBounds_toArray, List.set_cons_zero, List.set_cons_succ, List.getElem_toArray, List.getElem_cons_zero, List.getElem_cons_succ])
  refine wpAnyH_take (i := 10) (oi := _) (v := undef) rfl (by kernel_rfl) (by kernel_rfl) (by kernel_rfl) (fun _ _ _ h => h) (Or.inr ⟨by rfl, rfl⟩) (by assumption) ?_
  (try simp only [Act.put, List.setIfInBounds_toArray, List.set_cons_zero, List.set_cons_succ, List.getElem_toArray, List.getElem_cons_zero, List.getElem_cons_succ])
  refine wpAnyH_take (i := 11) (oi := _) (v := undef) rfl (by kernel_rfl) (by kernel_rfl) (by kernel_rfl) (fun _ _ _ h => h) (Or.inr ⟨by rfl, rfl⟩) (by assumption) ?_
  (try simp only [Act.put, List.setIfInBounds_toArray, List.set_cons_zero, List.set_cons_succ, List.getElem_toArray, List.getElem_cons_zero, List.getElem_cons_succ])
  refine wpAnyH_take (i := 12) (oi := _) (v := undef) rfl (by kernel_rfl) (by kernel_rfl) (by kernel_rfl) (fun _ _ _ h => h) (Or.inr ⟨by rfl, rfl⟩) (by assumption) ?_
  (try simp only [Act.put, List.setIfInBounds_toArray, List.set_cons_zero, List.set_cons_succ, List.getElem_toArray, List.getElem_cons_zero, List.getElem_cons_succ])
  refine wpAnyH_take (i := 13) (oi := _) (v := undef) rfl (by kernel_rfl) (by kernel_rfl) (by kernel_rfl) (fun _ _ _ h => h) (Or.inr ⟨by rfl, rfl⟩) (by assumption) ?_
  (try simp only [Act.put, List.setIfInBounds_toArray, List.set_cons_zero, List.set_cons_succ, List.getElem_toArray, List.getElem_cons_zero, List.getElem_cons_succ])
  refine wpAnyH_take (i := 14) (oi := _) (v := undef) rfl (by kernel_rfl) (by kernel_rfl) (by kernel_rfl) (fun _ _ _ h => h) (Or.inr ⟨by rfl, rfl⟩) (by assumption) ?_
  (try simp only [Act.put, List.setIfInBounds_toArray, List.set_cons_zero, List.set_cons_succ, List.getElem_toArray, List.getElem_cons_zero, List.getElem_cons_succ])
  refine wpAnyH_take (i := 15) (oi := _) (v := undef) rfl (by kernel_rfl) (by kernel_rfl) (by kernel_rfl) (fun _ _ _ h => h) (Or.inr ⟨by rfl, rfl⟩) (by assumption) ?_
  (try simp only [Act.put, List.setIfInBounds_toArray, List.set_cons_zero, List.set_cons_succ, List.getElem_toArray, List.getElem_cons_zero, List.getElem_cons_succ])
  refine wpAnyH_take (i := 16) (oi := _) (v := undef) rfl (by kernel_rfl) (by kernel_rfl) (by kernel_rfl) (fun _ _ _ h => h) (Or.inr ⟨by rfl, rfl⟩) (by assumption) ?_
  (try simp only [Act.put, List.setIfInBounds_toArray, List.set_cons_zero, List.set_cons_succ, List.getElem_toArray, List.getElem_cons_zero, List.getElem_cons_succ])
  refine wpAnyH_take (i := 17) (oi := _) (v := undef) rfl (by kernel_rfl) (by kernel_rfl) (by kernel_rfl) (fun _ _ _ h => h) (Or.inr ⟨by rfl, rfl⟩) (by assumption) ?_
  (try simp only [Act.put, List.setIfInBounds_toArray, List.set_cons_zero, List.set_cons_succ, List.getElem_toArray, List.getElem_cons_zero, List.getElem_cons_succ])
  refine wpAnyH_take (i := 18) (oi := _) (v := undef) rfl (by kernel_rfl) (by kernel_rfl) (by kernel_rfl) (fun _ _ _ h => h) (Or.inr ⟨by rfl, rfl⟩) (by assumption) ?_
  (try simp only [Act.put, List.setIfInBounds_toArray, List.set_cons_zero, List.set_cons_succ, List.getElem_toArray, List.getElem_cons_zero, List.getElem_cons_succ])
  refine wpAnyH_take (i := 19) (oi := _) (v := undef) rfl (by kernel_rfl) (by kernel_rfl) (by kernel_rfl) (fun _ _ _ h => h) (Or.inr ⟨by rfl, rfl⟩) (by assumption) ?_
  (try simp only [Act.put, List.setIfInBounds_toArray, List.set_cons_zero, List.set_cons_succ, List.getElem_toArray, List.getElem_cons_zero, List.getElem_cons_succ])
  refine wpAnyH_take (i := 20) (oi := _) (v := undef) rfl (by kernel_rfl) (by kernel_rfl) (by kernel_rfl) (fun _ _ _ h => h) (Or.inr ⟨by rfl, rfl⟩) (by assumption) ?_
  (try simp only [Act.put, List.setIfInBounds_toArray, List.set_cons_zero, List.set_cons_succ, List.getElem_toArray, List.getElem_cons_zero, List.getElem_cons_succ])
  refine wpAnyH_take (i := 21) (oi := _) (v := undef) rfl (by kernel_rfl) (by kernel_rfl) (by kernel_rfl) (fun _ _ _ h => h) (Or.inr ⟨by rfl, rfl⟩) (by assumption) ?_
  (try simp only [Act.put, List.setIfInBounds_toArray, List.set_cons_zero, List.set_cons_succ, List.getElem_toArray, List.getElem_cons_zero, List.getElem_cons_succ])
  refine wpAnyH_take (i := 22) (oi := _) (v := undef) rfl (by kernel_rfl) (by kernel_rfl) (by kernel_rfl) (fun _ _ _ h => h) (Or.inr ⟨by rfl, rfl⟩) (by assumption) ?_
  (try simp only [Act.put, List.setIfInBounds_toArray, List.set_cons_zero, List.set_cons_succ, List.getElem_toArray, List.getElem_cons_zero, List.getElem_cons_succ])
  refine wpAnyH_take (i := 23) (oi := _) (v := undef) rfl (by kernel_rfl) (by kernel_rfl) (by kernel_rfl) (fun _ _ _ h => h) (Or.inr ⟨by rfl, rfl⟩) (by assumption) ?_
  (try simp only [Act.put, List.setIfInBounds_toArray, List.set_cons_zero, List.set_cons_succ, List.getElem_toArray, List.getElem_cons_zero, List.getElem_cons_succ])
  refine wpAnyH_take (i := 24) (oi := _) (v := undef) rfl (by kernel_rfl) (by kernel_rfl) (by kernel_rfl) (fun _ _ _ h => h) (Or.inr ⟨by rfl, rfl⟩) (by assumption) ?_
  (try simp only [Act.put, List.setIfInBounds_toArray, List.set_cons_zero, List.set_cons_succ, List.getElem_toArray, List.getElem_cons_zero, List.getElem_cons_succ])
  refine wpAnyH_take (i := 25) (oi := _) (v := undef) rfl (by kernel_rfl) (by kernel_rfl) (by kernel_rfl) (fun _ _ _ h => h) (Or.inr ⟨by rfl, rfl⟩) (by assumption) ?_
  (try simp only [Act.put, List.setIfInBounds_toArray, List.set_cons_zero, List.set_cons_succ, List.getElem_toArray, List.getElem_cons_zero, List.getElem_cons_succ])
  refine wpAnyH_take (i := 26) (oi := _) (v := undef) rfl (by kernel_rfl) (by kernel_rfl) (by kernel_rfl) (fun _ _ _ h => h) (Or.inr ⟨by rfl, rfl⟩) (by assumption) ?_
  (try simp only [Act.put, List.setIfInBounds_toArray, List.set_cons_zero, List.set_cons_succ, List.getElem_toArray, List.getElem_cons_zero, List.getElem_cons_succ])
  refine wpAnyH_take (i := 27) (oi := _) (v := undef) rfl (by kernel_rfl) (by kernel_rfl) (by kernel_rfl) (fun _ _ _ h => h) (Or.inr ⟨by rfl, rfl⟩) (by assumption) ?_
  (try simp only [Act.put, List.setIfInBounds_toArray, List.set_cons_zero, List.set_cons_succ, List.getElem_toArray, List.getElem_cons_zero, List.getElem_cons_succ])
  refine wpAnyH_take (i := 28) (oi := _) (v := undef) rfl (by kernel_rfl) (by kernel_rfl) (by kernel_rfl) (fun _ _ _ h => h) (Or.inr ⟨by rfl, rfl⟩) (by assumption) ?_
  (try simp only [Act.put, List.setIfInBounds_toArray, List.set_cons_zero, List.set_cons_succ, List.getElem_toArray, List.getElem_cons_zero, List.getElem_cons_succ])
  refine wpAnyH_take (i := 29) (oi := _) (v := undef) rfl (by kernel_rfl) (by kernel_rfl) (by kernel_rfl) (fun _ _ _ h => h) (Or.inr ⟨by rfl, rfl⟩) (by assumption) ?_
  (try simp only [Act.put, List.setIfInBounds_toArray, List.set_cons_zero, List.set_cons_succ, List.getElem_toArray, List.getElem_cons_zero, List.getElem_cons_succ])
  refine wpAnyH_take (i := 30) (oi := _) (v := ?_) rfl (by kernel_rfl) (by kernel_rfl) (by kernel_rfl) (fun _ _ _ h => h) (Or.inl ⟨by rfl, ?_⟩) (by assumption) ?_
  rotate_left
  focus ((intro w hSw; (try dsimp only at hSw); go_simp; try with_reducible rfl); done)
  (try simp only [Act.put, List.setIfInBounds_toArray, List.set_cons_zero, List.set_cons_succ, List.getElem_toArray, List.getElem_cons_zero, List.getElem_cons_succ])
  refine wpAnyH_take (i := 31) (oi := _) (v := ?_) rfl (by kernel_rfl) (by kernel_rfl) (by kernel_rfl) (fun _ _ _ h => h) (Or.inl ⟨by rfl, ?_⟩) (by assumption) ?_
  rotate_left
  focus ((intro w hSw; (try dsimp only at hSw); go_simp; try with_reducible rfl); done)
  (try simp only [Act.put, List.setIfInBounds_toArray, List.set_cons_zero, List.set_cons_succ, List.getElem_toArray, List.getElem_cons_zero, List.getElem_cons_succ])
  refine wpAnyH_done (by kernel_rfl) ?_ _
  have hAe := hHeld1.2
  obtain ⟨y0, y1, y2⟩ := (HRB.out _ hAe).facts
  have kB := fun W hA => begins_any r c o l k s fv fs t1 t2 t3 N x.row.name w0 W (HO.out W hA) hlt
  clear hlt
  go_upto_region 8 with (first
    | (go_at_call 121; (with_reducible refine (kK _ hAe).mono ?_); rintro e w4 ⟨rfl, hA5⟩; have hAf := hAe.trans hA5; obtain ⟨z0, z1, z2⟩ := (HRB.out _ hAf).facts)
    | (go_at_call 122; (with_reducible refine (kB _ hAf).mono ?_); rintro e w5 ⟨rfl, fv', hOf, hKB⟩))
  have HKQ : Hid (Keep r w w5) := Lib.hid (fun b t cs hB hbr ht => hKB b t cs (HKP.out _ hAf b t cs hB hbr ht) hbr ht)
  have hRf : RowAt w5 w.heap.size x := hKB _ _ _ (HRB.out _ hAf) hrb (by decide)
  obtain ⟨q0, q1, q2⟩ := hRf.facts
  rw [hkz] at q0
  obtain ⟨⟨_, _, _, _, _, _, u6, u7, u8, u9, _⟩, f⟩ := hOf.rd.facts
  have fK := f 8
  clear f kK HO HRB hS0 hHeld0 hHeld1 hAe y0 y1 y2 hKB
  go_region
  all_goals go_wp2_with fail
  go_ret
  exact ⟨rfl, fv', ⟨Blk.set_ hOf.drew.rd 8 (.bool true), hOf.drew.fams.far hOf.drew.rd (by decide) (by decide) (by decide) 8 _, hOf.drew.aw.setCell (.inl (by simp)) _, hOf.rl⟩, fun b t cs hB hbr ht => Blk.far (Blk.drew (HKQ.out b t cs hB hbr ht)) (p := ⟨r, 8, none⟩) hbr _⟩
set_option maxRecDepth 100000 in
set_option maxHeartbeats 6400000 in
theorem named_new3 (r : Nat) (c o l k : Int) (s : ByteArray) (fv : Value) (fs : List VFam) (t1 t2 t3 : Bool) (N : Nat) (x : VRow) (w0 w : World) (h : OA w0 w r c o l k s fv fs t1 t2 t3 N) (hx : x.row.name.size ≤ 60)
    (hkn : knownO (fs.map VFam.fam) x.row.name.data.toList = false) (hlt : fs.length < 30) (hk : x.row.kind = 3) :
    Calls Tryz.prog 81 #[.pointer (some ⟨r, 0, none⟩), .agg #[.int .i64 x.row.kind, .string x.row.name, .int .i64 x.row.off, .slice x.tA x.row.tags.length x.tc, .slice x.fA x.row.fields.length x.fc, .string x.row.text, .int .i64 x.row.pos, .bool x.row.timed, .string x.row.time, .int .i64 x.row.when_]] w fun e w' => e = .returned (.bool true) ∧ ∃ fv', OA w0 w' r c o l k s fv' (fs ++ [vnew x.row.name]) false false true N ∧ Keep r w w' := by
  have hkz : (x.row.kind : Int) = 3 := by rw [hk]; rfl
  rw [hkz]
  have h1 := h.alloc (.cells #[.int .i64 3, .string x.row.name, .int .i64 x.row.off, .slice x.tA x.row.tags.length x.tc, .slice x.fA x.row.fields.length x.fc, .string x.row.text, .int .i64 x.row.pos, .bool x.row.timed, .string x.row.time, .int .i64 x.row.when_] 43)
  have hR : RowAt (w.alloc (.cells #[.int .i64 3, .string x.row.name, .int .i64 x.row.off, .slice x.tA x.row.tags.length x.tc, .slice x.fA x.row.fields.length x.fc, .string x.row.text, .int .i64 x.row.pos, .bool x.row.timed, .string x.row.time, .int .i64 x.row.when_] 43)) w.heap.size x := by
    unfold RowAt
    rw [hkz]
    exact Blk.new w 43 #[.int .i64 3, .string x.row.name, .int .i64 x.row.off, .slice x.tA x.row.tags.length x.tc, .slice x.fA x.row.fields.length x.fc, .string x.row.text, .int .i64 x.row.pos, .bool x.row.timed, .string x.row.time, .int .i64 x.row.when_]
  obtain ⟨p, _, _, kS⟩ := stands_any r c o l k s fv fs t1 t2 t3 N w0 _ h1 (by omega)
  have d1 : decide ((60 : Int) < (x.row.name.size : Int)) = false := decide_eq_false (by omega)
  have d1n : decide (60 < x.row.name.size) = false := decide_eq_false (by omega)
  have hrb : w.heap.size ≠ r := by have := h.rd.lt; omega
  clear h
  go_enter Tryz.func81, Tryz.ntmps81
  go_upto_region 4 with (
    (go_at_call 75; (with_reducible refine kS.mono ?_); rintro e w2 ⟨rfl, hA2⟩; have h2 := h1.call hA2; have hR2 := hR.aw hA2 (by simp); obtain ⟨e0, e1, e2⟩ := hR2.facts; rw [hkz] at e0))
  have hS0 : (w2.drew.cell? ⟨w.heap.size, 1, none⟩ = some (.string x.row.name)) ∧ Aw [] w2.drew w2.drew := ⟨e1, Aw.refl [] _⟩
  have kK := fun W hA => known_any r c o l k s fv fs t1 t2 t3 N x.row.name w0 W (h2.drew.call hA) (by omega)
  rw [hkn] at kK
  have HO : Hid (∀ W, Aw [] w2.drew W → OA w0 W r c o l k s fv fs t1 t2 t3 N) := Lib.hid (fun W hA => h2.drew.call hA)
  have HRB : Hid (∀ W, Aw [] w2.drew W → RowAt W w.heap.size x) := Lib.hid (fun W hA => (hR2.aw (Aw.refl [] w2).drew (by simp)).aw hA (by simp))
  have HKP : Hid (∀ W, Aw [] w2.drew W → Keep r w W) := Lib.hid (fun W hA b t cs hB _ _ => Blk.aw (Blk.aw (Blk.aw (Blk.alloc hB _) hA2 (by simp)) (Aw.refl [] w2).drew (by simp)) hA (by simp))
  clear kS h1 hR h2 hR2 hA2 e0 e1 e2 hkn hk
  refine wp_region_held_drew (S := (fun w' => (w'.cell? ⟨w.heap.size, 1, none⟩ = some (.string x.row.name)) ∧ Aw [] w2.drew w')) (by kernel_rfl) ?_ (fun hHeld0 => ?_)
  · (try dsimp only); (first | exact hS0 | assumption)
  refine wpAnyH_take (i := 0) (oi := _) (v := ?_) rfl (by kernel_rfl) (by kernel_rfl) (by kernel_rfl) (fun _ _ _ h => h) (Or.inl ⟨by rfl, ?_⟩) (by assumption) ?_
  rotate_left
  focus ((intro w hSw; (try dsimp only at hSw); go_simp; try with_reducible rfl); done)
  (try simp only [Act.put, List.setIfInBounds_toArray, List.set_cons_zero, List.set_cons_succ, List.getElem_toArray, List.getElem_cons_zero, List.getElem_cons_succ])
  refine wpAnyH_take (i := 1) (oi := _) (v := ?_) rfl (by kernel_rfl) (by kernel_rfl) (by kernel_rfl) (fun _ _ _ h => h) (Or.inl ⟨by rfl, ?_⟩) (by assumption) ?_
  rotate_left
  focus ((intro w hSw; (try dsimp only at hSw); go_simp; try with_reducible rfl); done)
  (try simp only [Act.put, List.setIfInBounds_toArray, List.set_cons_zero, List.set_cons_succ, List.getElem_toArray, List.getElem_cons_zero, List.getElem_cons_succ])
  refine wpAnyH_take (i := 2) (oi := _) (v := ?_) rfl (by kernel_rfl) (by kernel_rfl) (by kernel_rfl) (fun _ _ _ h => h) (Or.inl ⟨by rfl, ?_⟩) (by assumption) ?_
  rotate_left
  focus ((intro w hSw; (try dsimp only at hSw); go_simp; try with_reducible rfl); done)
  (try simp only [Act.put, List.setIfInBounds_toArray, List.set_cons_zero, List.set_cons_succ, List.getElem_toArray, List.getElem_cons_zero, List.getElem_cons_succ])
  refine wpAnyH_ready (rs := [3]) (by kernel_rfl) (by simp) ?_
  refine AllReadyH.cons (o := _) rfl (fun K hK => ?_) AllReadyH.nil
  go_simp
  go_wp2_with (go_at_call 121; (with_reducible refine (kK _ (by first | assumption | exact Aw.refl [] _)).mono ?_); rintro e w3 ⟨rfl, hA3⟩; obtain ⟨_, hcur⟩ := ‹_ ∧ Aw [] w2.drew _›; have hA4 := hcur.trans hA3; have hS3 := And.intro (HRB.out _ hA4).facts.2.1 hA4)
  refine hK.out _ _ ?_ (fun hHeld1 => ?_)
  · (try dsimp only); (first | exact hS0 | assumption)
  clear hK K
  (try simp only [Act.put, List.setIfInBounds_toArray, List.set_cons_zero, List.set_cons_succ, List.getElem_toArray, List.getElem_cons_zero, List.getElem_cons_succ])
  refine wpAnyH_take (i := 4) (oi := _) (v := ?_) rfl (by kernel_rfl) (by kernel_rfl) (by kernel_rfl) (fun _ _ _ h => h) (Or.inl ⟨by rfl, ?_⟩) (by assumption) ?_
  rotate_left
  focus ((intro w hSw; (try dsimp only at hSw); go_simp; try with_reducible rfl); done)
  (try simp only [Act.put, List.setIfInBounds_toArray, List.set_cons_zero, List.set_cons_succ, List.getElem_toArray, List.getElem_cons_zero, List.getElem_cons_succ])
  refine wpAnyH_take (i := 5) (oi := _) (v := undef) rfl (by kernel_rfl) (by kernel_rfl) (by kernel_rfl) (fun _ _ _ h => h) (Or.inr ⟨by rfl, rfl⟩) (by assumption) ?_
  (try simp only [Act.put, List.setIfInBounds_toArray, List.set_cons_zero, List.set_cons_succ, List.getElem_toArray, List.getElem_cons_zero, List.getElem_cons_succ])
  refine wpAnyH_take (i := 6) (oi := _) (v := undef) rfl (by kernel_rfl) (by kernel_rfl) (by kernel_rfl) (fun _ _ _ h => h) (Or.inr ⟨by rfl, rfl⟩) (by assumption) ?_
  (try simp only [Act.put, List.setIfInBounds_toArray, List.set_cons_zero, List.set_cons_succ, List.getElem_toArray, List.getElem_cons_zero, List.getElem_cons_succ])
  refine wpAnyH_take (i := 7) (oi := _) (v := undef) rfl (by kernel_rfl) (by kernel_rfl) (by kernel_rfl) (fun _ _ _ h => h) (Or.inr ⟨by rfl, rfl⟩) (by assumption) ?_
  (try simp only [Act.put, List.setIfInBounds_toArray, List.set_cons_zero, List.set_cons_succ, List.getElem_toArray, List.getElem_cons_zero, List.getElem_cons_succ])
  refine wpAnyH_take (i := 8) (oi := _) (v := undef) rfl (by kernel_rfl) (by kernel_rfl) (by kernel_rfl) (fun _ _ _ h => h) (Or.inr ⟨by rfl, rfl⟩) (by assumption) ?_
  (try simp only [Act.put, List.setIfInBounds_toArray, List.set_cons_zero, List.set_cons_succ, List.getElem_toArray, List.getElem_cons_zero, List.getElem_cons_succ])
  refine wpAnyH_take (i := 9) (oi := _) (v := undef) rfl (by kernel_rfl) (by kernel_rfl) (by kernel_rfl) (fun _ _ _ h => h) (Or.inr ⟨by rfl, rfl⟩) (by assumption) ?_
  (try simp only [Act.put, List.setIfInBounds_toArray, List.set_cons_zero, List.set_cons_succ, List.getElem_toArray, List.getElem_cons_zero, List.getElem_cons_succ])
  refine wpAnyH_take (i := 10) (oi := _) (v := undef) rfl (by kernel_rfl) (by kernel_rfl) (by kernel_rfl) (fun _ _ _ h => h) (Or.inr ⟨by rfl, rfl⟩) (by assumption) ?_
  (try simp only [Act.put, List.setIfInBounds_toArray, List.set_cons_zero, List.set_cons_succ, List.getElem_toArray, List.getElem_cons_zero, List.getElem_cons_succ])
  refine wpAnyH_take (i := 11) (oi := _) (v := undef) rfl (by kernel_rfl) (by kernel_rfl) (by kernel_rfl) (fun _ _ _ h => h) (Or.inr ⟨by rfl, rfl⟩) (by assumption) ?_
  (try simp only [Act.put, List.setIfInBounds_toArray, List.set_cons_zero, List.set_cons_succ, List.getElem_toArray, List.getElem_cons_zero, List.getElem_cons_succ])
  refine wpAnyH_take (i := 12) (oi := _) (v := undef) rfl (by kernel_rfl) (by kernel_rfl) (by kernel_rfl) (fun _ _ _ h => h) (Or.inr ⟨by rfl, rfl⟩) (by assumption) ?_
  (try simp only [Act.put, List.setIfInBounds_toArray, List.set_cons_zero, List.set_cons_succ, List.getElem_toArray, List.getElem_cons_zero, List.getElem_cons_succ])
  refine wpAnyH_take (i := 13) (oi := _) (v := undef) rfl (by kernel_rfl) (by kernel_rfl) (by kernel_rfl) (fun _ _ _ h => h) (Or.inr ⟨by rfl, rfl⟩) (by assumption) ?_
  (try simp only [Act.put, List.setIfInBounds_toArray, List.set_cons_zero, List.set_cons_succ, List.getElem_toArray, List.getElem_cons_zero, List.getElem_cons_succ])
  refine wpAnyH_take (i := 14) (oi := _) (v := undef) rfl (by kernel_rfl) (by kernel_rfl) (by kernel_rfl) (fun _ _ _ h => h) (Or.inr ⟨by rfl, rfl⟩) (by assumption) ?_
  (try simp only [Act.put, List.setIfInBounds_toArray, List.set_cons_zero, List.set_cons_succ, List.getElem_toArray, List.getElem_cons_zero, List.getElem_cons_succ])
  refine wpAnyH_take (i := 15) (oi := _) (v := undef) rfl (by kernel_rfl) (by kernel_rfl) (by kernel_rfl) (fun _ _ _ h => h) (Or.inr ⟨by rfl, rfl⟩) (by assumption) ?_
  (try simp only [Act.put, List.setIfInBounds_toArray, List.set_cons_zero, List.set_cons_succ, List.getElem_toArray, List.getElem_cons_zero, List.getElem_cons_succ])
  refine wpAnyH_take (i := 16) (oi := _) (v := undef) rfl (by kernel_rfl) (by kernel_rfl) (by kernel_rfl) (fun _ _ _ h => h) (Or.inr ⟨by rfl, rfl⟩) (by assumption) ?_
  (try simp only [Act.put, List.setIfInBounds_toArray, List.set_cons_zero, List.set_cons_succ, List.getElem_toArray, List.getElem_cons_zero, List.getElem_cons_succ])
  refine wpAnyH_take (i := 17) (oi := _) (v := undef) rfl (by kernel_rfl) (by kernel_rfl) (by kernel_rfl) (fun _ _ _ h => h) (Or.inr ⟨by rfl, rfl⟩) (by assumption) ?_
  (try simp only [Act.put, List.setIfInBounds_toArray, List.set_cons_zero, List.set_cons_succ, List.getElem_toArray, List.getElem_cons_zero, List.getElem_cons_succ])
  refine wpAnyH_take (i := 18) (oi := _) (v := undef) rfl (by kernel_rfl) (by kernel_rfl) (by kernel_rfl) (fun _ _ _ h => h) (Or.inr ⟨by rfl, rfl⟩) (by assumption) ?_
  (try simp only [Act.put, List.setIfInBounds_toArray, List.set_cons_zero, List.set_cons_succ, List.getElem_toArray, List.getElem_cons_zero, List.getElem_cons_succ])
  refine wpAnyH_take (i := 19) (oi := _) (v := undef) rfl (by kernel_rfl) (by kernel_rfl) (by kernel_rfl) (fun _ _ _ h => h) (Or.inr ⟨by rfl, rfl⟩) (by assumption) ?_
  (try simp only [Act.put, List.setIfInBounds_toArray, List.set_cons_zero, List.set_cons_succ, List.getElem_toArray, List.getElem_cons_zero, List.getElem_cons_succ])
  refine wpAnyH_take (i := 20) (oi := _) (v := undef) rfl (by kernel_rfl) (by kernel_rfl) (by kernel_rfl) (fun _ _ _ h => h) (Or.inr ⟨by rfl, rfl⟩) (by assumption) ?_
  (try simp only [Act.put, List.setIfInBounds_toArray, List.set_cons_zero, List.set_cons_succ, List.getElem_toArray, List.getElem_cons_zero, List.getElem_cons_succ])
  refine wpAnyH_take (i := 21) (oi := _) (v := undef) rfl (by kernel_rfl) (by kernel_rfl) (by kernel_rfl) (fun _ _ _ h => h) (Or.inr ⟨by rfl, rfl⟩) (by assumption) ?_
  (try simp only [Act.put, List.setIfInBounds_toArray, List.set_cons_zero, List.set_cons_succ, List.getElem_toArray, List.getElem_cons_zero, List.getElem_cons_succ])
  refine wpAnyH_take (i := 22) (oi := _) (v := undef) rfl (by kernel_rfl) (by kernel_rfl) (by kernel_rfl) (fun _ _ _ h => h) (Or.inr ⟨by rfl, rfl⟩) (by assumption) ?_
  (try simp only [Act.put, List.setIfInBounds_toArray, List.set_cons_zero, List.set_cons_succ, List.getElem_toArray, List.getElem_cons_zero, List.getElem_cons_succ])
  refine wpAnyH_take (i := 23) (oi := _) (v := undef) rfl (by kernel_rfl) (by kernel_rfl) (by kernel_rfl) (fun _ _ _ h => h) (Or.inr ⟨by rfl, rfl⟩) (by assumption) ?_
  (try simp only [Act.put, List.setIfInBounds_toArray, List.set_cons_zero, List.set_cons_succ, List.getElem_toArray, List.getElem_cons_zero, List.getElem_cons_succ])
  refine wpAnyH_take (i := 24) (oi := _) (v := undef) rfl (by kernel_rfl) (by kernel_rfl) (by kernel_rfl) (fun _ _ _ h => h) (Or.inr ⟨by rfl, rfl⟩) (by assumption) ?_
  (try simp only [Act.put, List.setIfInBounds_toArray, List.set_cons_zero, List.set_cons_succ, List.getElem_toArray, List.getElem_cons_zero, List.getElem_cons_succ])
  refine wpAnyH_take (i := 25) (oi := _) (v := undef) rfl (by kernel_rfl) (by kernel_rfl) (by kernel_rfl) (fun _ _ _ h => h) (Or.inr ⟨by rfl, rfl⟩) (by assumption) ?_
  (try simp only [Act.put, List.setIfInBounds_toArray, List.set_cons_zero, List.set_cons_succ, List.getElem_toArray, List.getElem_cons_zero, List.getElem_cons_succ])
  refine wpAnyH_take (i := 26) (oi := _) (v := undef) rfl (by kernel_rfl) (by kernel_rfl) (by kernel_rfl) (fun _ _ _ h => h) (Or.inr ⟨by rfl, rfl⟩) (by assumption) ?_
  (try simp only [Act.put, List.setIfInBounds_toArray, List.set_cons_zero, List.set_cons_succ, List.getElem_toArray, List.getElem_cons_zero, List.getElem_cons_succ])
  refine wpAnyH_take (i := 27) (oi := _) (v := undef) rfl (by kernel_rfl) (by kernel_rfl) (by kernel_rfl) (fun _ _ _ h => h) (Or.inr ⟨by rfl, rfl⟩) (by assumption) ?_
  (try simp only [Act.put, List.setIfInBounds_toArray, List.set_cons_zero, List.set_cons_succ, List.getElem_toArray, List.getElem_cons_zero, List.getElem_cons_succ])
  refine wpAnyH_take (i := 28) (oi := _) (v := undef) rfl (by kernel_rfl) (by kernel_rfl) (by kernel_rfl) (fun _ _ _ h => h) (Or.inr ⟨by rfl, rfl⟩) (by assumption) ?_
  (try simp only [Act.put, List.setIfInBounds_toArray, List.set_cons_zero, List.set_cons_succ, List.getElem_toArray, List.getElem_cons_zero, List.getElem_cons_succ])
  refine wpAnyH_take (i := 29) (oi := _) (v := undef) rfl (by kernel_rfl) (by kernel_rfl) (by kernel_rfl) (fun _ _ _ h => h) (Or.inr ⟨by rfl, rfl⟩) (by assumption) ?_
  (try simp only [Act.put, List.setIfInBounds_toArray, List.set_cons_zero, List.set_cons_succ, List.getElem_toArray, List.getElem_cons_zero, List.getElem_cons_succ])
  refine wpAnyH_take (i := 30) (oi := _) (v := ?_) rfl (by kernel_rfl) (by kernel_rfl) (by kernel_rfl) (fun _ _ _ h => h) (Or.inl ⟨by rfl, ?_⟩) (by assumption) ?_
  rotate_left
  focus ((intro w hSw; (try dsimp only at hSw); go_simp; try with_reducible rfl); done)
  (try simp only [Act.put, List.setIfInBounds_toArray, List.set_cons_zero, List.set_cons_succ, List.getElem_toArray, List.getElem_cons_zero, List.getElem_cons_succ])
  refine wpAnyH_take (i := 31) (oi := _) (v := ?_) rfl (by kernel_rfl) (by kernel_rfl) (by kernel_rfl) (fun _ _ _ h => h) (Or.inl ⟨by rfl, ?_⟩) (by assumption) ?_
  rotate_left
  focus ((intro w hSw; (try dsimp only at hSw); go_simp; try with_reducible rfl); done)
  (try simp only [Act.put, List.setIfInBounds_toArray, List.set_cons_zero, List.set_cons_succ, List.getElem_toArray, List.getElem_cons_zero, List.getElem_cons_succ])
  refine wpAnyH_done (by kernel_rfl) ?_ _
  have hAe := hHeld1.2
  obtain ⟨y0, y1, y2⟩ := (HRB.out _ hAe).facts
  have kB := fun W hA => begins_any r c o l k s fv fs t1 t2 t3 N x.row.name w0 W (HO.out W hA) hlt
  clear hlt
  go_upto_region 8 with (first
    | (go_at_call 121; (with_reducible refine (kK _ hAe).mono ?_); rintro e w4 ⟨rfl, hA5⟩; have hAf := hAe.trans hA5; obtain ⟨z0, z1, z2⟩ := (HRB.out _ hAf).facts)
    | (go_at_call 122; (with_reducible refine (kB _ hAf).mono ?_); rintro e w5 ⟨rfl, fv', hOf, hKB⟩))
  have HKQ : Hid (Keep r w w5) := Lib.hid (fun b t cs hB hbr ht => hKB b t cs (HKP.out _ hAf b t cs hB hbr ht) hbr ht)
  have hRf : RowAt w5 w.heap.size x := hKB _ _ _ (HRB.out _ hAf) hrb (by decide)
  obtain ⟨q0, q1, q2⟩ := hRf.facts
  rw [hkz] at q0
  obtain ⟨⟨_, _, _, _, _, _, u6, u7, u8, u9, _⟩, f⟩ := hOf.rd.facts
  have fK := f 9
  clear f kK HO HRB hS0 hHeld0 hHeld1 hAe y0 y1 y2 hKB
  go_region
  all_goals go_wp2_with fail
  go_ret
  exact ⟨rfl, fv', ⟨Blk.set_ hOf.drew.rd 9 (.bool true), hOf.drew.fams.far hOf.drew.rd (by decide) (by decide) (by decide) 9 _, hOf.drew.aw.setCell (.inl (by simp)) _, hOf.rl⟩, fun b t cs hB hbr ht => Blk.far (Blk.drew (HKQ.out b t cs hB hbr ht)) (p := ⟨r, 9, none⟩) hbr _⟩
end
section
theorem OOk.push {fs : List VFam} {N : Nat} {n : ByteArray} (h : OOk fs N) (hl : fs.length < 30) (hn : n.size ≤ 60) : OOk (fs ++ [vnew n]) N :=
  ⟨by simp; omega, h.num, fun f hf => by
    rcases List.mem_append.1 hf with h1 | h1
    · exact h.fam f h1
    · rw [List.mem_singleton] at h1; subst h1
      exact ⟨hn, Nat.zero_le _, Nat.zero_le _, fun x hx => by simp [vnew] at hx⟩⟩
theorem RowP.err {w0 w' : World} {r : Nat} {c o l k : Int} {s : ByteArray} {x : OErr} {e : Ending} {cd at_ : Nat} (hx : x = (cd, at_)) (h : e = .returned (.bool false) ∧ (∃ fv t1 t2 t3 N, Obf w' r cd at_ s fv t1 t2 t3 N) ∧ Aw [r] w0 w') : RowP w0 w' r c o l k s (.error x) e := by
  subst hx; exact h
theorem namedO_long {q : ORd} {x : MRow} (h : 60 < x.name.size) : namedO q x = .error (14, x.off) := by unfold namedO; rw [if_pos h]
theorem namedO_known {q : ORd} {x : MRow} {f : MFam} (h : x.name.size ≤ 60) (hk : knownO q.fams x.name.data.toList = true) (hf : q.fams.getLast? = some f) : namedO q x = if !(f.name.data.toList == x.name.data.toList) || (decide (0 < f.pts.length) || q.told x.kind) then .error (13, x.off) else .ok (q.tell x.kind) := by
  unfold namedO
  rw [if_neg (by omega), if_pos hk, hf]
theorem namedO_full {q : ORd} {x : MRow} (h : x.name.size ≤ 60) (hk : knownO q.fams x.name.data.toList = false) (hf : 30 ≤ q.fams.length) : namedO q x = .error (14, x.off) := by
  unfold namedO
  rw [if_neg (by omega), if_neg (by rw [hk]; decide), if_pos hf]
theorem namedO_new {q : ORd} {x : MRow} (h : x.name.size ≤ 60) (hk : knownO q.fams x.name.data.toList = false) (hf : q.fams.length < 30) : namedO q x = .ok ((beginO q x.name).tell x.kind) := by
  unfold namedO
  rw [if_neg (by omega), if_neg (by rw [hk]; decide), if_neg (by omega)]
set_option maxRecDepth 100000 in
set_option maxHeartbeats 6400000 in
theorem onamed_all (r : Nat) (c o l k : Int) (s : ByteArray) (fv : Value) (fs : List VFam) (t1 t2 t3 : Bool) (N : Nat) (x : VRow) (w0 w : World) (h : OA w0 w r c o l k s fv fs t1 t2 t3 N) (hs : s.size ≤ 1048576) (kf : OOk fs N) (hk : x.row.kind = 1 ∨ x.row.kind = 2 ∨ x.row.kind = 3) :
    Calls Tryz.prog 81 #[.pointer (some ⟨r, 0, none⟩), .agg #[.int .i64 x.row.kind, .string x.row.name, .int .i64 x.row.off, .slice x.tA x.row.tags.length x.tc, .slice x.fA x.row.fields.length x.fc, .string x.row.text, .int .i64 x.row.pos, .bool x.row.timed, .string x.row.time, .int .i64 x.row.when_]] w fun e w' => RowP w0 w' r c o l k s (namedO ⟨fs.map VFam.fam, t1, t2, t3, N⟩ x.row) e ∧ ((∃ q, namedO ⟨fs.map VFam.fam, t1, t2, t3, N⟩ x.row = .ok q) → Keep r w w') := by
  have hl := kf.len
  by_cases hx : 60 < x.row.name.size
  · rw [namedO_long hx]
    exact (named_long r c o l k s fv fs t1 t2 t3 N x w0 w h hs (by omega) hx).mono fun e w' hh => ⟨.err rfl hh, fun ⟨_, hq⟩ => by simp at hq⟩
  have hx' : x.row.name.size ≤ 60 := by omega
  cases hkn : knownO (fs.map VFam.fam) x.row.name.data.toList
  case false =>
    by_cases hf : 30 ≤ fs.length
    · obtain ⟨i, hi⟩ : ∃ i, fs.length = i + 1 := ⟨fs.length - 1, by omega⟩
      have hX : fs[i]? = some fs[i] := List.getElem?_eq_getElem (by omega)
      rw [namedO_full hx' hkn (by simpa using hf)]
      exact (named_full r c o l k s fv fs t1 t2 t3 N i x fs[i] w0 w h hs (by omega) hx' hi hX hkn hf).mono fun e w' hh => ⟨.err rfl hh, fun ⟨_, hq⟩ => by simp at hq⟩
    · rw [namedO_new hx' hkn (by simp; omega)]
      have hb : fs.map VFam.fam ++ [newF x.row.name] = (fs ++ [vnew x.row.name]).map VFam.fam := by simp [vnew, newF, VFam.fam]
      have hO := kf.push (n := x.row.name) (by omega) hx'
      rcases hk with hk | hk | hk
      · refine (named_new1 r c o l k s fv fs t1 t2 t3 N x w0 w h hx' hkn (by omega) hk).mono ?_
        rintro e w' ⟨he, fv', hh, hkp⟩
        rw [hk]
        exact ⟨⟨he, fv', _, hb.symm, hh, hO⟩, fun _ => hkp⟩
      · refine (named_new2 r c o l k s fv fs t1 t2 t3 N x w0 w h hx' hkn (by omega) hk).mono ?_
        rintro e w' ⟨he, fv', hh, hkp⟩
        rw [hk]
        exact ⟨⟨he, fv', _, hb.symm, hh, hO⟩, fun _ => hkp⟩
      · refine (named_new3 r c o l k s fv fs t1 t2 t3 N x w0 w h hx' hkn (by omega) hk).mono ?_
        rintro e w' ⟨he, fv', hh, hkp⟩
        rw [hk]
        exact ⟨⟨he, fv', _, hb.symm, hh, hO⟩, fun _ => hkp⟩
  case true =>
    obtain ⟨i, hi⟩ : ∃ i, fs.length = i + 1 := by
      cases fs with
      | nil => simp [knownO] at hkn
      | cons y ys => exact ⟨ys.length, rfl⟩
    obtain ⟨X, hX⟩ : ∃ X, fs[i]? = some X := ⟨fs[i], List.getElem?_eq_getElem (by omega)⟩
    have hlast : (fs.map VFam.fam).getLast? = some X.fam := by
      rw [List.getLast?_eq_getElem?, List.length_map, hi, Nat.add_sub_cancel, List.getElem?_map, hX]; rfl
    have hpl : X.pts.length ≤ 120 := Nat.le_trans (kf.fam X (List.mem_of_getElem? hX)).2.2.1 kf.num
    rw [namedO_known hx' hkn hlast]
    have eN : X.fam.name = X.name := rfl
    have eP : X.fam.pts.length = X.pts.length := by simp [VFam.fam]
    rw [eN, eP]
    cases hne : X.name.data.toList == x.row.name.data.toList
    · exact (named_other r c o l k s fv fs t1 t2 t3 N i x X w0 w h hs (by omega) hx' hi hX hkn hne).mono fun e w' hh => ⟨.err rfl hh, fun ⟨_, hq⟩ => by simp at hq⟩
    · by_cases hpt : 0 < X.pts.length
      · rw [decide_eq_true hpt]
        exact (named_pts r c o l k s fv fs t1 t2 t3 N i x X w0 w h hs (by omega) hx' hi hX hkn hne hpt hpl).mono fun e w' hh => ⟨.err rfl hh, fun ⟨_, hq⟩ => by simp at hq⟩
      · have hp0 : X.pts.length = 0 := by omega
        rw [decide_eq_false hpt]
        rcases hk with hk | hk | hk
        · have eT : ORd.told ⟨fs.map VFam.fam, t1, t2, t3, N⟩ x.row.kind = t1 := by rw [hk]; rfl
          have eL : ORd.tell ⟨fs.map VFam.fam, t1, t2, t3, N⟩ x.row.kind = ⟨fs.map VFam.fam, t1 || true, t2 || false, t3 || false, N⟩ := by rw [hk]; rfl
          rw [eT, eL]
          clear eT eL
          simp only [Bool.or_false, Bool.or_true]
          cases t1
          · exact (named_tell1 r c o l k s fv fs false t2 t3 N i x X w0 w h hs (by omega) hx' hi hX hkn hne hp0 hk rfl hpl).mono fun e w' hh => ⟨⟨hh.1, fv, fs, rfl, hh.2.1, kf⟩, fun _ => hh.2.2⟩
          · exact (named_told1 r c o l k s fv fs true t2 t3 N i x X w0 w h hs (by omega) hx' hi hX hkn hne hp0 hk rfl hpl).mono fun e w' hh => ⟨.err rfl hh, fun ⟨_, hq⟩ => by simp at hq⟩
        · have eT : ORd.told ⟨fs.map VFam.fam, t1, t2, t3, N⟩ x.row.kind = t2 := by rw [hk]; rfl
          have eL : ORd.tell ⟨fs.map VFam.fam, t1, t2, t3, N⟩ x.row.kind = ⟨fs.map VFam.fam, t1 || false, t2 || true, t3 || false, N⟩ := by rw [hk]; rfl
          rw [eT, eL]
          clear eT eL
          simp only [Bool.or_false, Bool.or_true]
          cases t2
          · exact (named_tell2 r c o l k s fv fs t1 false t3 N i x X w0 w h hs (by omega) hx' hi hX hkn hne hp0 hk rfl hpl).mono fun e w' hh => ⟨⟨hh.1, fv, fs, rfl, hh.2.1, kf⟩, fun _ => hh.2.2⟩
          · exact (named_told2 r c o l k s fv fs t1 true t3 N i x X w0 w h hs (by omega) hx' hi hX hkn hne hp0 hk rfl hpl).mono fun e w' hh => ⟨.err rfl hh, fun ⟨_, hq⟩ => by simp at hq⟩
        · have eT : ORd.told ⟨fs.map VFam.fam, t1, t2, t3, N⟩ x.row.kind = t3 := by rw [hk]; rfl
          have eL : ORd.tell ⟨fs.map VFam.fam, t1, t2, t3, N⟩ x.row.kind = ⟨fs.map VFam.fam, t1 || false, t2 || false, t3 || true, N⟩ := by rw [hk]; rfl
          rw [eT, eL]
          clear eT eL
          simp only [Bool.or_false, Bool.or_true]
          cases t3
          · exact (named_tell3 r c o l k s fv fs t1 t2 false N i x X w0 w h hs (by omega) hx' hi hX hkn hne hp0 hk rfl hpl).mono fun e w' hh => ⟨⟨hh.1, fv, fs, rfl, hh.2.1, kf⟩, fun _ => hh.2.2⟩
          · exact (named_told3 r c o l k s fv fs t1 t2 true N i x X w0 w h hs (by omega) hx' hi hX hkn hne hp0 hk rfl hpl).mono fun e w' hh => ⟨.err rfl hh, fun ⟨_, hq⟩ => by simp at hq⟩
end
end Go.Proofs.YtcapbikelgcmmaaGreatDoor
