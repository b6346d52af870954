/- The walk of openread.Read (wip/gen/ordw.py prints it). The walk of polyglotlaw18's known (wip/gen/k18.py prints it). Where a row's words stand: within the text (plain law); what a fault's place is. The walk of OpenSyntax. -/
import Derived.Test.YtcapbikelgcmmaaGreatDoorMgTe9
import Derived.Test.YtcapbikelgcmmaaGreatDoorMgPl9
import Derived.Test.YtcapbikelgcmmaaGreatDoorMgSa9
import Derived.Test.YtcapbikelgcmmaaGreatDoorMgSb9
import Derived.Deep.RegionLaw
import Derived.Deep.LoopGhost
import Derived.Deep.RegionHeld3
namespace Go.Proofs.YtcapbikelgcmmaaGreatDoor
set_option linter.unusedVariables false
set_option linter.unusedSimpArgs false
open Go.RowKit
section
/-- What Read tells. -/
def ReadOP (s : ByteArray) (w' : World) : Except OErr (List MFam) → Ending → Prop
  | .error x, en => en = .returned (.tuple #[.slice none 0 0, .agg #[.int .i64 (x.1 : Int), .int .i64 (fltO x.1 s x.2), .int .i64 (fltL x.1 s x.2), .int .i64 (fltC x.1 s x.2)]])
  | .ok gs, en => ∃ (A : Option Addr) (c base : Nat) (fs : List VFam), en = .returned (.tuple #[.slice A gs.length c, .agg #[.int .i64 0, .int .i64 0, .int .i64 0, .int .i64 0]]) ∧ FamsAt w' base (.slice A gs.length c) fs ∧ fs.map VFam.fam = gs ∧ (∀ f ∈ fs, ∀ y ∈ f.pts, PntOk y.pt)
theorem bl_any5 {a b : World} {F : Nat} {i0 i1 i2 i3 : Nat} {u0 u1 u2 u3 : Value} (h : Below a.heap.size a b) (hF : a.heap.size ≤ F) : Below a.heap.size a ((((b.setCell ⟨F, i0, none⟩ u0).setCell ⟨F, i1, none⟩ u1).setCell ⟨F, i2, none⟩ u2).setCell ⟨F, i3, none⟩ u3) := bl_set (bl_set (bl_set (bl_set h hF _) hF _) hF _) hF _
theorem own_lowB {w : World} {base base' : Nat} {fv : Value} {fs : List VFam} (h : FamsAt w base fv fs) (hb : base' ≤ base) : FamsAt w base' fv fs := ⟨own_lowL h.own hb, fun f hf => own_lowL (h.pts f hf) hb, h.dis, fun f hf x hx => own_lowL (h.lab f hf x hx) hb⟩
theorem turnP_fam (x : VFam) {qs : List VPnt} {A : Option Addr} {c : Nat} (hq : qs.map VPnt.pt = sortC cmpPntK (x.pts.map VPnt.pt)) : (x.turnP qs A c).fam = sortF x.fam := by
  simp [VFam.turnP, VFam.fam, sortF, hq]
theorem at_step {gs : List MFam} {fsj : List VFam} {j : Nat} {X : VFam} (hm : fsj.map VFam.fam = (gs.take j).map sortF ++ gs.drop j) (hX : fsj[j]? = some X) : gs[j]? = some X.fam := by
  have hl : fsj.length = gs.length := by
    have := congrArg List.length hm
    simp only [List.length_map, List.length_append, List.length_take, List.length_drop] at this
    omega
  have hj : j < gs.length := by rw [← hl]; exact (List.getElem?_eq_some_iff.1 hX).1
  have e : (fsj.map VFam.fam)[j]? = some X.fam := by rw [List.getElem?_map, hX]; rfl
  rw [hm, List.getElem?_append_right (by simp; omega)] at e
  simpa [List.length_take, Nat.min_eq_left (Nat.le_of_lt hj)] using e
theorem step_len {gs : List MFam} {fsj : List VFam} {j : Nat} (hm : fsj.map VFam.fam = (gs.take j).map sortF ++ gs.drop j) : fsj.length = gs.length := by
  have := congrArg List.length hm
  simp only [List.length_map, List.length_append, List.length_take, List.length_drop] at this
  omega
theorem set_step {gs : List MFam} {fsj : List VFam} {j : Nat} {X Y : VFam} (hm : fsj.map VFam.fam = (gs.take j).map sortF ++ gs.drop j) (hX : fsj[j]? = some X) (hY : Y.fam = sortF X.fam) : (fsj.set j Y).map VFam.fam = (gs.take (j + 1)).map sortF ++ gs.drop (j + 1) ∧ gs[j]? = some X.fam := by
  have hl : fsj.length = gs.length := by
    have := congrArg List.length hm
    simp only [List.length_map, List.length_append, List.length_take, List.length_drop] at this
    omega
  have hj : j < gs.length := by rw [← hl]; exact (List.getElem?_eq_some_iff.1 hX).1
  have hg : gs[j]? = some X.fam := by
    have e : (fsj.map VFam.fam)[j]? = some X.fam := by rw [List.getElem?_map, hX]; rfl
    rw [hm, List.getElem?_append_right (by simp; omega)] at e
    simpa [List.length_take, Nat.min_eq_left (Nat.le_of_lt hj)] using e
  refine ⟨?_, hg⟩
  have hgj : gs[j] = X.fam := (List.getElem?_eq_some_iff.1 hg).2
  rw [List.map_set, hm, hY, List.take_succ_eq_append_getElem hj, List.map_append, hgj]
  have hlt : ((gs.take j).map sortF).length = j := by simp; omega
  rw [List.set_append_right _ _ (by omega), hlt, Nat.sub_self, List.drop_eq_getElem_cons hj, List.set_cons_zero]
  simp
set_option maxRecDepth 100000 in
set_option maxHeartbeats 12800000 in
theorem oread18_all (s : ByteArray) (w : World) (hs : s.size ≤ 1048575) :
    Calls Tryz.prog 9 #[.string s] w fun en w' => ReadOP s w' (readR s.data.toList) en ∧ Below w.heap.size w w' := by
  have hL : s.data.toList.length = s.size := by simp
  have hs5 : s.size ≤ 4611686018427387903 := by omega
  have k14 : ∀ W, Calls Tryz.prog 10 #[.int .i64 14, .string s, .int .i64 0] W fun e w' => e = .returned (.agg #[.int .i64 14, .int .i64 (fltO 14 s 0), .int .i64 (fltL 14 s 0), .int .i64 (fltC 14 s 0)]) ∧ Below W.heap.size W w' := fun W => spAt_any 14 s 0 W hs5
  have k11 : ∀ o W, Calls Tryz.prog 10 #[.int .i64 11, .string s, .int .i64 o] W fun e w' => e = .returned (.agg #[.int .i64 11, .int .i64 (fltO 11 s o), .int .i64 (fltL 11 s o), .int .i64 (fltC 11 s o)]) ∧ Below W.heap.size W w' := fun o W => spAt_any 11 s o W hs5
  have hF0 := Blk.new w 31 #[.int .i64 0, .int .i64 0, .int .i64 0, .int .i64 0]
  have hb0 : Below w.heap.size w (w.alloc (.cells #[.int .i64 0, .int .i64 0, .int .i64 0, .int .i64 0] 31)) := (Below.refl _ _).alloc (Nat.le_refl _) _
  unfold readR
  obtain ⟨R, hR⟩ : ∃ R, readO s.data.toList = R := ⟨_, rfl⟩
  rw [hR]
  unfold readO at hR
  rw [hL] at hR
  by_cases h4 : 4000 < s.size
  case pos =>
    rw [if_pos h4] at hR
    subst hR
    have d4 : decide ((4000 : Int) < (s.size : Int)) = true := decide_eq_true (by omega)
    have d4n : decide (4000 < s.size) = true := decide_eq_true h4
    simp only [ReadOP]
    go_enter Tryz.func9, Tryz.ntmps9
    go_wp2_with (go_at_call 10; (with_reducible refine (k14 _).mono ?_); rintro en w1 ⟨rfl, hb1⟩; have h1 := hF0.below hb1 (by simp); have c0 := (Blk.cell h1 0).trans rfl; have c1 := (Blk.cell h1 1).trans rfl; have c2 := (Blk.cell h1 2).trans rfl; have c3 := (Blk.cell h1 3).trans rfl; have f0 := Blk.frozen h1 0; have f1 := Blk.frozen h1 1; have f2 := Blk.frozen h1 2; have f3 := Blk.frozen h1 3)
    refine bodyPost_ret (v := .tuple #[.slice none 0 0, .agg #[.int .i64 14, .int .i64 (fltO 14 s 0), .int .i64 (fltL 14 s 0), .int .i64 (fltC 14 s 0)]]) (by simp [results, Tryz.results9, go_sem, c0, c1, c2, c3]) rfl ⟨rfl, ?_⟩
    exact bl_any5 (bl_any hb0 hb1) (Nat.le_refl _)
  case neg =>
    rw [if_neg h4] at hR
    have d4 : decide ((4000 : Int) < (s.size : Int)) = false := decide_eq_false (by omega)
    have d4n : decide (4000 < s.size) = false := decide_eq_false h4
    have kRw := fun W => rowsC_any s W (by omega)
    have kB := fun W => bad_any' s W (by omega)
    obtain ⟨hlen, hok⟩ := openRows_ok s.data.toList
    rw [hL] at hlen
    unfold openBad at kB
    generalize openRows s.data.toList = Q at *
    obtain ⟨Q1, Qa, Qn⟩ := Q
    cases Qn
    case true =>
      simp only [if_true] at hR kB
      subst hR
      simp only [ReadOP]
      clear hok hlen
      have kRw' : ∀ W, Calls Tryz.prog 12 #[.string s] W fun e w' => (∃ A n c, e = .returned (.tuple #[.slice A n c, .bool false])) ∧ Below W.heap.size W w' := fun W => (kRw W).mono fun e w' ⟨⟨A, n, c, h1, _⟩, h3⟩ => ⟨⟨A, n, c, h1⟩, h3⟩
      clear kRw
      go_enter Tryz.func9, Tryz.ntmps9
      go_wp2_with (first
        | (go_at_call 12; (with_reducible refine (kRw' _).mono ?_); rintro en w1 ⟨⟨A, n, cc, rfl⟩, hb1⟩; have h1 := hF0.below hb1 (by simp))
        | (go_at_call 11; (with_reducible refine (kB _).mono ?_); rintro en w2 ⟨rfl, hb2⟩; have h2 := h1.below hb2 (Blk.lt h1))
        | (go_at_call 10; (with_reducible refine (k11 _ _).mono ?_); rintro en w3 ⟨rfl, hb3⟩; have h3 := h2.below hb3 (Blk.lt h2); have c0 := (Blk.cell h3 0).trans rfl; have c1 := (Blk.cell h3 1).trans rfl; have c2 := (Blk.cell h3 2).trans rfl; have c3 := (Blk.cell h3 3).trans rfl; have f0 := Blk.frozen h3 0; have f1 := Blk.frozen h3 1; have f2 := Blk.frozen h3 2; have f3 := Blk.frozen h3 3))
      refine bodyPost_ret (v := .tuple #[.slice none 0 0, .agg #[.int .i64 11, .int .i64 (fltO 11 s Qa), .int .i64 (fltL 11 s Qa), .int .i64 (fltC 11 s Qa)]]) (by simp [results, Tryz.results9, go_sem, c0, c1, c2, c3]) rfl ⟨rfl, ?_⟩
      exact bl_any5 (bl_any (bl_any (bl_any hb0 hb1) hb2) hb3) (Nat.le_refl _)
    case false =>
      simp only [Bool.false_eq_true, if_false] at hR
      clear kB k11 k14
      have HO := Lib.hid hok
      have HR0 := Lib.hid hR
      clear hok hR
      go_enter Tryz.func9, Tryz.ntmps9
      go_upto_region 7 with (go_at_call 12; (with_reducible refine (kRw _).mono ?_); rintro en w1 ⟨⟨A, n, cc, rfl, hrows⟩, hb1⟩; have h1 := hF0.below hb1 (by simp))
      have hA2 : Aw [] w1 (w1.alloc (.cells #[.int .i64 0, .int .i64 0, .int .i64 0, .int .i64 0, .string s, .slice none 0 0, .bool false, .bool false, .bool false, .bool false, .int .i64 0] 77)) := (Aw.refl [] w1).alloc _
      have hrd : Ob (w1.alloc (.cells #[.int .i64 0, .int .i64 0, .int .i64 0, .int .i64 0, .string s, .slice none 0 0, .bool false, .bool false, .bool false, .bool false, .int .i64 0] 77)) w1.heap.size 0 0 0 0 s (.slice none 0 0) false false false 0 := Blk.new w1 _ _
      have hx1 : w.heap.size < w1.heap.size := Blk.lt h1
      have h2 := Blk.aw h1 hA2 (by simp)
      have hbW : Below w.heap.size w (w1.alloc (.cells #[.int .i64 0, .int .i64 0, .int .i64 0, .int .i64 0, .string s, .slice none 0 0, .bool false, .bool false, .bool false, .bool false, .int .i64 0] 77)) := bl_any (bl_any hb0 hb1) hA2.none_bel
      generalize w1.alloc (.cells #[.int .i64 0, .int .i64 0, .int .i64 0, .int .i64 0, .string s, .slice none 0 0, .bool false, .bool false, .bool false, .bool false, .int .i64 0] 77) = W0 at *
      generalize hr : w1.heap.size = r at *
      have hda : OA W0 W0 r 0 0 0 0 s (.slice none 0 0) [] false false false 0 := ⟨hrd, FamsAt.nil_, Aw.refl _ _, Blk.lt hrd⟩
      simp only [Bool.false_eq_true, if_false] at hrows
      obtain ⟨rows, hm, hr1, hr2⟩ := hrows
      have hrl := hr1.1
      have hml : rows.length = Q1.length := by rw [← hm]; simp
      have hr1' := hr1.aw hA2 (Nat.le_of_eq hr.symm) (by simp)
      have hrW := Blk.lt hrd
      have kA := oall_all r 0 0 0 0 s (.slice none 0 0) r n cc A s.data.toList rows W0 W0 hda (by omega) hr1' (fun X hX => ⟨(hr2 X hX).1.aw hA2 (Nat.le_of_eq hr.symm) (by simp), (hr2 X hX).2⟩) (fun X hX => HO.out X.row (by rw [← hm]; exact List.mem_map.2 ⟨X, hX, rfl⟩)) (by rw [hL]; omega) (Nat.le_of_lt hrW) (Nat.le_refl _) (by omega)
      rw [hm] at kA
      clear hr1 hr2 hr1' hrd HO hda kRw
      have hR := HR0.out
      clear HR0
      cases hal : allO Q1 ⟨[], false, false, false, 0⟩ with
      | error y =>
        rw [hal] at hR kA
        simp only at hR
        subst hR
        simp only [ReadOP, RowP] at kA ⊢
        clear hal
        go_upto_region 8 with (go_at_call 22; (with_reducible refine kA.mono ?_); rintro en w5 ⟨rfl, ⟨fv5, t1, t2, t3, N5, h5⟩, hA5⟩; unfold Obf at h5)
        have h3 := Blk.aw h2 hA5 (by simp; omega)
        obtain ⟨⟨r0, r1, r2, r3, _⟩, _⟩ := h5.facts
        have c0 := (Blk.cell h3 0).trans rfl
        have c1 := (Blk.cell h3 1).trans rfl
        have c2 := (Blk.cell h3 2).trans rfl
        have c3 := (Blk.cell h3 3).trans rfl
        have f0 := Blk.frozen h3 0
        have f1 := Blk.frozen h3 1
        have f2 := Blk.frozen h3 2
        have f3 := Blk.frozen h3 3
        have hbl := hbW.trans (hA5.bel_of (B := w.heap.size) (by simp; omega) hbW.size)
        go_region
        all_goals
          go_wp2_with fail
          refine bodyPost_ret (v := .tuple #[.slice none 0 0, .agg #[.int .i64 (y.1 : Int), .int .i64 (fltO y.1 s y.2), .int .i64 (fltL y.1 s y.2), .int .i64 (fltC y.1 s y.2)]]) (by simp [results, Tryz.results9, go_sem, c0, c1, c2, c3]) rfl ⟨rfl, ?_⟩
          exact bl_any5 hbl.drew (Nat.le_refl _)
      | ok q =>
        rw [hal] at hR kA
        simp only at hR
        have hdist := all_dist Q1 _ hal DistO.nil_
        subst hR
        simp only [RowP] at kA
        clear hal
        go_upto_region 9 with (go_at_call 22; (with_reducible refine kA.mono ?_); rintro en w5 ⟨rfl, fv, fs, hfq, hO5, hK5⟩)
        have hfl := hK5.len
        have hlq : fs.length = q.fams.length := by rw [← hfq]; simp
        have HG : Hid (∀ f ∈ q.fams, f.pts.length ≤ 1048576 ∧ (∀ p ∈ f.pts, PntOk p) ∧ f.pts.Pairwise fun a b => cmpPntK a b ≠ 0) := Lib.hid (fun f hf => by
          rw [← hfq] at hf
          obtain ⟨X, hX, rfl⟩ := List.mem_map.1 hf
          refine ⟨by have := (hK5.fam X hX).2.2.1; have := hK5.num; simp only [VFam.fam, List.length_map]; omega, ?_⟩
          have hp := (hK5.fam X hX).2.2.2
          have hok : ∀ p ∈ X.fam.pts, PntOk p := fun p hp' => by
            obtain ⟨y, hy, rfl⟩ := List.mem_map.1 hp'
            exact hp y hy
          refine ⟨hok, (hdist.pts X.fam (by rw [← hfq]; exact List.mem_map.2 ⟨X, hX, rfl⟩)).imp_of_mem (fun {a b} ha hb hne e => hne ?_)⟩
          rw [cmpPnt_key _ _ (hok b hb).bm (hok a ha).bm, cmpPntK_cmp.swap a b, e]; rfl)
        have HN := Lib.hid hdist.names
        have HFQ := Lib.hid hfq
        obtain ⟨⟨_, _, _, _, _, u5, _⟩, _⟩ := hO5.rd.facts
        obtain ⟨fA, fc, rfl⟩ := hO5.fams.form
        generalize hn0 : fs.length = n0 at *
        have H0 : Hid (fs.map VFam.fam = (q.fams.take 0).map sortF ++ q.fams.drop 0) := Lib.hid (by simpa using hfq)
        have HLQ := Lib.hid hlq
        have HO5 := Lib.hid hO5
        clear hdist hfq kA hK5 hlq
        generalize hgs : q.fams = gs at *
        have HGS := Lib.hid hgs
        clear hgs
        generalize q.t1 = t1 at *
        generalize q.t2 = t2 at *
        generalize q.t3 = t3 at *
        generalize q.pts = N at *
        clear hn0
        go_wp2_with fail
        clear u5 hO5
        go_loopw [41] (fun iv wr => ∃ (j : Nat) (fsj : List VFam), j ≤ n0 ∧ iv = .int .i64 j ∧ Hid (OA W0 wr r 0 0 0 0 s (.slice fA n0 fc) fsj t1 t2 t3 N) ∧ Hid (fsj.map VFam.fam = (gs.take j).map sortF ++ gs.drop j)) (fun i _ => n0 - (intOf i).toNat)
        case atStart => exact ⟨0, fs, by omega, rfl, HO5, H0⟩
        case round =>
          obtain ⟨j, fsj, hj, rfl, HO, HM⟩ := hrel
          clear HO5 H0 HFQ
          have hfl2 : fsj.length = n0 := by rw [step_len HM.out]; exact HLQ.out.symm
          by_cases hlt : j < n0
          case pos =>
            have hd : decide ((j : Int) < (n0 : Int)) = true := decide_eq_true (by omega)
            have hj0 : (0 : Int) ≤ j := by omega
            have hj1 : (j : Int) < n0 := by omega
            obtain ⟨X, hX⟩ : ∃ X, fsj[j]? = some X := ⟨fsj[j], List.getElem?_eq_getElem (by omega)⟩
            obtain ⟨g, fq, e1, hgb, hz1, hz2⟩ := HO.out.fams.at_ hX
            injection e1 with e1 e2 e3
            subst e1
            clear e2 e3 hz1 hz2
            obtain ⟨g20, gok, gne⟩ := HG.out X.fam (List.mem_of_getElem? (at_step HM.out hX))
            have hXm := List.mem_of_getElem? hX
            have hokX : ∀ y ∈ X.pts, PntOk y.pt := fun y hy => gok y.pt (List.mem_map.2 ⟨y, hy, rfl⟩)
            have kS := fun W (hW : OA W0 W r 0 0 0 0 s (.slice (some ⟨g, 0, none⟩) n0 fc) fsj t1 t2 t3 N) => famSort_any X W (by
              obtain ⟨A', c', e, hr⟩ := own_rws (f := pntCell) (fun _ => rfl) (hW.fams.pts X hXm) rfl
              injection e with e1 e2 e3
              subst e1
              exact hr) (fun y hy => ⟨own_labO (hW.fams.lab X hXm y hy) rfl, (hokX y hy).len⟩) hokX gne (by simpa [VFam.fam] using g20)
            have HX := Lib.hid hX
            have HFL2 := Lib.hid hfl2
            obtain ⟨y0, y1, y2, y3, y4⟩ := HO.out.fams.cells_ hX
            clear hX hfl2 g20 gok gne hokX hXm
            go_upto_region 12 with (fail)
            have hda2 := HO.out.call ((Aw.refl [] wr).alloc (.cells #[.string X.name, .int .i64 (X.kind : Int), .string X.unit, .string X.help, .slice X.A X.pts.length X.c] 68))
            have hcp := Blk.new wr 68 #[.string X.name, .int .i64 (X.kind : Int), .string X.unit, .string X.help, .slice X.A X.pts.length X.c]
            clear y0 y1 y2 y3 y4
            generalize wr.alloc (.cells #[.string X.name, .int .i64 (X.kind : Int), .string X.unit, .string X.help, .slice X.A X.pts.length X.c] 68) = W2 at *
            generalize wr.heap.size = cp at *
            obtain ⟨⟨_, _, _, _, _, u5, _⟩, _⟩ := hda2.rd.facts
            have n0' := (Blk.cell hcp 0).trans rfl; have n1' := (Blk.cell hcp 1).trans rfl; have n2' := (Blk.cell hcp 2).trans rfl; have n3' := (Blk.cell hcp 3).trans rfl; have n4' := (Blk.cell hcp 4).trans rfl
            have hrg : r ≠ g := by omega
            go_region_law (go_simp; go_at_call 23; (refine (kS _ hda2.drew).mono ?_); rintro en w7 ⟨vA, vc, qs, rfl, hFO⟩; have hda7 := hda2.drew.call (Aw.ofBelow hFO.b); obtain ⟨⟨_, _, _, _, _, t5, _⟩, _⟩ := hda7.rd.facts; have g0 := hda7.fams.fz (j * 5); have g1 := hda7.fams.fz (j * 5 + 1); have g2 := hda7.fams.fz (j * 5 + 2); have g3 := hda7.fams.fz (j * 5 + 3); have g4 := hda7.fams.fz (j * 5 + 4); obtain ⟨y0, y1, y2, y3, y4⟩ := hda7.fams.cells_ HX.out)
            all_goals
              have hF2 : FamsAt W2.drew W0.heap.size (.slice (some ⟨g, 0, none⟩) fsj.length fc) fsj := by rw [HFL2.out]; exact hda2.drew.fams
              have hT := FamsAt.turnP (i := j) (x := X) (w := W2.drew) (w' := w7) hF2 HX.out hFO.b hda2.drew.aw.size hFO.own
              rw [HFL2.out] at hT
              have hda8 : OA W0 ((((((w7.setCell ⟨g, j * 5, none⟩ (.string X.name)).setCell ⟨g, j * 5 + 1, none⟩ (.int .i64 (X.kind : Int))).setCell ⟨g, j * 5 + 2, none⟩ (.string X.unit)).setCell ⟨g, j * 5 + 3, none⟩ (.string X.help)).setCell ⟨g, j * 5 + 4, none⟩ (.slice vA qs.length vc))) r 0 0 0 0 s (.slice (some ⟨g, 0, none⟩) n0 fc) (fsj.set j (X.turnP qs vA vc)) t1 t2 t3 N := ⟨(((((hda7.rd.far (p := ⟨g, j * 5, none⟩) hrg (.string X.name)).far (p := ⟨g, j * 5 + 1, none⟩) hrg (.int .i64 (X.kind : Int))).far (p := ⟨g, j * 5 + 2, none⟩) hrg (.string X.unit)).far (p := ⟨g, j * 5 + 3, none⟩) hrg (.string X.help)).far (p := ⟨g, j * 5 + 4, none⟩) hrg (.slice vA qs.length vc)), hT, (((((hda7.aw.setCell (p := ⟨g, j * 5, none⟩) (.inr hgb) (.string X.name)).setCell (p := ⟨g, j * 5 + 1, none⟩) (.inr hgb) (.int .i64 (X.kind : Int))).setCell (p := ⟨g, j * 5 + 2, none⟩) (.inr hgb) (.string X.unit)).setCell (p := ⟨g, j * 5 + 3, none⟩) (.inr hgb) (.string X.help)).setCell (p := ⟨g, j * 5 + 4, none⟩) (.inr hgb) (.slice vA qs.length vc)), hda7.rl⟩
              have hst := (set_step HM.out HX.out (turnP_fam (A := vA) (c := vc) X hFO.pts)).1
              have HD8 := Lib.hid hda8
              have HST := Lib.hid hst
              clear hT hda7 hda8 hst g0 g1 g2 g3 g4 y0 y1 y2 y3 y4 t5 kS hF2
              generalize ((((((w7.setCell ⟨g, j * 5, none⟩ (.string X.name)).setCell ⟨g, j * 5 + 1, none⟩ (.int .i64 (X.kind : Int))).setCell ⟨g, j * 5 + 2, none⟩ (.string X.unit)).setCell ⟨g, j * 5 + 3, none⟩ (.string X.help)).setCell ⟨g, j * 5 + 4, none⟩ (.slice vA qs.length vc))) = w8 at *
              go_wp2_with fail
              exact ⟨⟨j + 1, _, by omega, rfl, HD8, HST⟩, by (simp only [intOf]; omega)⟩
          case neg =>
            have hd : decide ((j : Int) < (n0 : Int)) = false := decide_eq_false (by omega)
            obtain rfl : j = n0 := by omega
            have hM := HM.out
            rw [List.take_of_length_le (by have := HLQ.out; omega), List.drop_of_length_le (by have := HLQ.out; omega), List.append_nil] at hM
            have hO := HO.out
            have hnm : fsj.Pairwise fun f g => f.name.data.toList ≠ g.name.data.toList := by
              have h1 : (fsj.map VFam.fam).Pairwise fun f g => f.name.data.toList ≠ g.name.data.toList := by
                rw [hM, List.pairwise_map]; exact HN.out
              rw [List.pairwise_map] at h1
              exact h1
            have kT := famsSort_any W0.heap.size (.slice fA j fc) fsj wr hO.fams hnm (by omega)
            rw [hM] at kT
            obtain ⟨⟨_, _, _, _, _, u5, _⟩, _⟩ := hO.rd.facts
            have h3 := Blk.aw h2 hO.aw (by simp; omega)
            have HMM := Lib.hid hM
            clear hM hnm HM HO
            go_upto_region 15 with (go_at_call 24; (with_reducible refine kT.mono ?_); rintro en w9 ⟨rfl, fs9, hm9, hp9, hF9, hb9⟩)
            have hrl := hO.rl
            have hR9 : Ob w9 r 0 0 0 0 s (.slice fA j fc) t1 t2 t3 N := Blk.below hO.rd hb9 hrl
            have h4' := Blk.below h3 hb9 (by have := Blk.lt h2; omega)
            obtain ⟨⟨_, _, _, _, _, v5, _⟩, _⟩ := hR9.facts
            have c0 := (Blk.cell h4' 0).trans rfl; have c1 := (Blk.cell h4' 1).trans rfl; have c2 := (Blk.cell h4' 2).trans rfl; have c3 := (Blk.cell h4' 3).trans rfl; have f0 := Blk.frozen h4' 0; have f1 := Blk.frozen h4' 1; have f2 := Blk.frozen h4' 2; have f3 := Blk.frozen h4' 3
            have hbl := (hbW.trans (hO.aw.bel_of (B := w.heap.size) (by simp; omega) hbW.size)).trans (hb9.mono (by have := Blk.lt h2; omega))
            have hFz := (((hF9.far h4' (by decide) (by decide) (by decide) 0 (.int .i64 0)).far (Blk.set_ h4' 0 (.int .i64 0)) (by decide) (by decide) (by decide) 1 (.int .i64 0)).far (Blk.set_ (Blk.set_ h4' 0 (.int .i64 0)) 1 (.int .i64 0)) (by decide) (by decide) (by decide) 2 (.int .i64 0)).far (Blk.set_ (Blk.set_ (Blk.set_ h4' 0 (.int .i64 0)) 1 (.int .i64 0)) 2 (.int .i64 0)) (by decide) (by decide) (by decide) 3 (.int .i64 0)
            have hgl : (sortC cmpFamN (gs.map sortF)).length = j := by
              show (sortC cmpFam (gs.map sortF)).length = j
              rw [(cmpFam_cmp.sorted (gs.map sortF)).1.length_eq, List.length_map]; exact HLQ.out.symm
            have hPK : ∀ f ∈ fs9, ∀ y ∈ f.pts, PntOk y.pt := fun f hf y hy => by
              have e1 : f.fam ∈ gs.map sortF := by
                rw [← HMM.out]; exact List.mem_map.2 ⟨f, hp9.mem_iff.1 hf, rfl⟩
              obtain ⟨f0, hf0, e2⟩ := List.mem_map.1 e1
              have e3 : f.fam.pts = sortC cmpPntK f0.pts := by rw [← e2]; rfl
              have e4 : y.pt ∈ f.fam.pts := List.mem_map.2 ⟨y, hy, rfl⟩
              rw [e3, (cmpPntK_cmp.sorted f0.pts).1.mem_iff] at e4
              exact (HG.out f0 hf0).2.1 _ e4
            clear kT
            go_wp2_with fail
            refine bodyPost_ret (v := .tuple #[.slice fA j fc, .agg #[.int .i64 0, .int .i64 0, .int .i64 0, .int .i64 0]]) (by simp [results, Tryz.results9, go_sem, c0, c1, c2, c3]) rfl ⟨?_, bl_any5 hbl (Nat.le_refl _)⟩
            simp only [ReadOP]
            rw [HGS.out, hgl]
            exact ⟨fA, fc, W0.heap.size, fs9, rfl, hFz, hm9, hPK⟩
theorem oread18_any (s : ByteArray) (w : World) (hs : s.size ≤ 1048575) (_ : ∀ gs, readO s.data.toList = .ok gs → ∀ g ∈ gs, g.pts.length < 20) :
    Calls Tryz.prog 9 #[.string s] w fun en w' => ReadOP s w' (readR s.data.toList) en ∧ Below w.heap.size w w' := oread18_all s w hs
end
section
def kP1 : MPnt := ⟨[], 1, true, 0, 0, 3, 0, false, 0⟩
def kP2 : MPnt := ⟨[], 4, false, 0, 0, 15, 1, true, 2000⟩
def kF1 : MFam := ⟨mkS [97], 3, ⟨#[]⟩, ⟨#[]⟩, [kP1, kP2]⟩
def kF2 : MFam := ⟨mkS [98], 0, ⟨#[]⟩, ⟨#[]⟩, [⟨[], 0, false, 0, 0, 7, 0, false, 0⟩]⟩
theorem sortC_id {α : Type} {c : α → α → Int} (h : CmpL c) {l : List α} (hs : l.Pairwise fun x y => c x y < 0) : sortC c l = l := (h.sort_eq (List.Perm.refl _) hs).symm
theorem kro1 : readO [35, 32, 84, 89, 80, 69, 32, 97, 32, 104, 105, 115, 116, 111, 103, 114, 97, 109, 10, 97, 95, 98, 117, 99, 107, 101, 116, 123, 108, 101, 61, 34, 43, 73, 110, 102, 34, 125, 32, 51, 10, 97, 95, 115, 117, 109, 32, 49, 46, 53, 32, 50, 10, 98, 32, 55, 10, 35, 32, 69, 79, 70] = .ok [kF1, kF2] := by kernel_rfl
theorem krd1 : readR [35, 32, 84, 89, 80, 69, 32, 97, 32, 104, 105, 115, 116, 111, 103, 114, 97, 109, 10, 97, 95, 98, 117, 99, 107, 101, 116, 123, 108, 101, 61, 34, 43, 73, 110, 102, 34, 125, 32, 51, 10, 97, 95, 115, 117, 109, 32, 49, 46, 53, 32, 50, 10, 98, 32, 55, 10, 35, 32, 69, 79, 70] = .ok [kF1, kF2] := by
  unfold readR
  rw [kro1]
  have e1 : sortF kF1 = kF1 := by
    unfold sortF
    rw [show kF1.pts = [kP1, kP2] from rfl, sortC_id cmpPntK_cmp (by decide +kernel)]
    rfl
  have e2 : sortF kF2 = kF2 := by
    unfold sortF
    rw [show kF2.pts = [⟨[], 0, false, 0, 0, 7, 0, false, 0⟩] from rfl, sortC_id cmpPntK_cmp (by simp)]
    rfl
  simp only [List.map_cons, List.map_nil, e1, e2]
  exact congrArg Except.ok (sortC_id cmpFam_cmp (by decide +kernel))
theorem kro2 : readO [97, 32, 49, 10, 98, 32, 49, 10, 97, 123, 120, 61, 34, 49, 34, 125, 32, 49, 10, 35, 32, 69, 79, 70] = .error (13, 8) := by kernel_rfl
theorem kro3 : readO [97, 32, 49] = .error (11, 3) := by kernel_rfl
theorem kfl2 : fltO 13 ⟨#[97, 32, 49, 10, 98, 32, 49, 10, 97, 123, 120, 61, 34, 49, 34, 125, 32, 49, 10, 35, 32, 69, 79, 70]⟩ 8 = 8 ∧ fltL 13 ⟨#[97, 32, 49, 10, 98, 32, 49, 10, 97, 123, 120, 61, 34, 49, 34, 125, 32, 49, 10, 35, 32, 69, 79, 70]⟩ 8 = 3 := by decide +kernel
theorem kfl3 : fltO 11 ⟨#[97, 32, 49]⟩ 3 = 3 := by decide +kernel
theorem kbel : belZ [97] 2 [97, 95, 116, 111, 116, 97, 108] = some 0 := by decide +kernel
/-- Two families, of two points and of one. -/
theorem fams_two {w : World} {A : Option Addr} {c base : Nat} {fs : List VFam} (h : FamsAt w base (.slice A 2 c) fs) (hm : fs.map VFam.fam = [kF1, kF2]) : ∃ g pA p1 c1, A = some ⟨g, 0, none⟩ ∧ w.cell? ⟨g, 1, none⟩ = some (.int .i64 3) ∧ w.cell? ⟨g, 4, none⟩ = some (.slice (some ⟨p1, pA, none⟩) 2 c1) ∧ w.cell? ⟨g, 5, none⟩ = some (.string ⟨#[98]⟩) ∧ w.cell? ⟨p1, pA + 2, none⟩ = some (.bool true) ∧ w.cell? ⟨p1, pA + 9 + 8, none⟩ = some (.int .i64 2000) := by
  rcases fs with _ | ⟨x, _ | ⟨y, _ | ⟨z, tl⟩⟩⟩
  · simp at hm
  · simp at hm
  · simp only [List.map_cons, List.map_nil, List.cons.injEq, and_true] at hm
    obtain ⟨hx, hy⟩ := hm
    obtain ⟨g, fc, e, _, _, _⟩ := h.at_ (i := 0) (X := x) rfl
    injection e with e1 e2 e3
    subst e1
    obtain ⟨a0, a1, a2, a3, a4⟩ := h.cells_ (i := 0) (x := x) rfl
    obtain ⟨b0, b1, b2, b3, b4⟩ := h.cells_ (i := 1) (x := y) rfl
    have hk : x.kind = 3 := congrArg MFam.kind hx
    have hn : y.name = ⟨#[98]⟩ := congrArg MFam.name hy
    have hp : x.pts.map VPnt.pt = [kP1, kP2] := congrArg MFam.pts hx
    obtain ⟨A', c', e, hr⟩ := own_rws (f := pntCell) (fun _ => rfl) (h.pts x (by simp)) rfl
    injection e with e1 e2 e3
    subst e1
    generalize hps : x.pts = ps at *
    rcases ps with _ | ⟨p, _ | ⟨q, _ | ⟨z, tl⟩⟩⟩
    · simp at hp
    · simp at hp
    · simp only [List.map_cons, List.map_nil, List.cons.injEq, and_true] at hp
      obtain ⟨hp1, hp2⟩ := hp
      obtain ⟨pb, po, e, _, _⟩ := hr.2 (by simp)
      rw [e] at hr a4
      obtain ⟨_, _, d2, _⟩ := pnt_cells hr (i := 0) (x := p) rfl
      obtain ⟨_, _, _, _, _, _, _, _, d8⟩ := pnt_cells hr (i := 1) (x := q) rfl
      rw [hp1] at d2
      rw [hp2] at d8
      rw [hk] at a1
      rw [hn] at b0
      exact ⟨g, po, pb, x.c, rfl, by simpa using a1, by simpa using a4, by simpa using b0, by simpa [kP1] using d2, by simpa [kP2] using d8⟩
    · simp at hp
  · simp at hm
set_option maxRecDepth 100000 in
set_option maxHeartbeats 6400000 in
theorem known18_any (w : World) : Calls Tryz.prog 8 #[] w fun e w' => e = .returned (.bool true) ∧ Below w.heap.size w w' := by
  have kR1 : ∀ W, Calls Tryz.prog 9 #[.string ⟨#[35, 32, 84, 89, 80, 69, 32, 97, 32, 104, 105, 115, 116, 111, 103, 114, 97, 109, 10, 97, 95, 98, 117, 99, 107, 101, 116, 123, 108, 101, 61, 34, 43, 73, 110, 102, 34, 125, 32, 51, 10, 97, 95, 115, 117, 109, 32, 49, 46, 53, 32, 50, 10, 98, 32, 55, 10, 35, 32, 69, 79, 70]⟩] W fun en w' => (∃ A c base fs, en = .returned (.tuple #[.slice A 2 c, .agg #[.int .i64 0, .int .i64 0, .int .i64 0, .int .i64 0]]) ∧ FamsAt w' base (.slice A 2 c) fs ∧ fs.map VFam.fam = [kF1, kF2]) ∧ Below W.heap.size W w' := fun W => by
    have h := oread18_any ⟨#[35, 32, 84, 89, 80, 69, 32, 97, 32, 104, 105, 115, 116, 111, 103, 114, 97, 109, 10, 97, 95, 98, 117, 99, 107, 101, 116, 123, 108, 101, 61, 34, 43, 73, 110, 102, 34, 125, 32, 51, 10, 97, 95, 115, 117, 109, 32, 49, 46, 53, 32, 50, 10, 98, 32, 55, 10, 35, 32, 69, 79, 70]⟩ W (by decide) (by
      show ∀ gs, readO [35, 32, 84, 89, 80, 69, 32, 97, 32, 104, 105, 115, 116, 111, 103, 114, 97, 109, 10, 97, 95, 98, 117, 99, 107, 101, 116, 123, 108, 101, 61, 34, 43, 73, 110, 102, 34, 125, 32, 51, 10, 97, 95, 115, 117, 109, 32, 49, 46, 53, 32, 50, 10, 98, 32, 55, 10, 35, 32, 69, 79, 70] = .ok gs → _
      rw [kro1]; intro gs h; injection h with h; subst h
      intro g hg
      simp only [List.mem_cons, List.not_mem_nil, or_false] at hg
      rcases hg with rfl | rfl <;> decide)
    have e : readR (⟨#[35, 32, 84, 89, 80, 69, 32, 97, 32, 104, 105, 115, 116, 111, 103, 114, 97, 109, 10, 97, 95, 98, 117, 99, 107, 101, 116, 123, 108, 101, 61, 34, 43, 73, 110, 102, 34, 125, 32, 51, 10, 97, 95, 115, 117, 109, 32, 49, 46, 53, 32, 50, 10, 98, 32, 55, 10, 35, 32, 69, 79, 70]⟩ : ByteArray).data.toList = .ok [kF1, kF2] := krd1
    rw [e] at h
    refine h.mono fun en w' hh => ⟨?_, hh.2⟩
    obtain ⟨A, c, base, fs, h1, h2, h3, _⟩ := hh.1
    exact ⟨A, c, base, fs, h1, h2, h3⟩
  have kR2 : ∀ W, Calls Tryz.prog 9 #[.string ⟨#[97, 32, 49, 10, 98, 32, 49, 10, 97, 123, 120, 61, 34, 49, 34, 125, 32, 49, 10, 35, 32, 69, 79, 70]⟩] W fun en w' => (∃ k, en = .returned (.tuple #[.slice none 0 0, .agg #[.int .i64 13, .int .i64 8, .int .i64 3, .int .i64 k]])) ∧ Below W.heap.size W w' := fun W => by
    have h := oread18_any ⟨#[97, 32, 49, 10, 98, 32, 49, 10, 97, 123, 120, 61, 34, 49, 34, 125, 32, 49, 10, 35, 32, 69, 79, 70]⟩ W (by decide) (by
      show ∀ gs, readO [97, 32, 49, 10, 98, 32, 49, 10, 97, 123, 120, 61, 34, 49, 34, 125, 32, 49, 10, 35, 32, 69, 79, 70] = .ok gs → _
      rw [kro2]; intro gs h; cases h)
    have e : readR (⟨#[97, 32, 49, 10, 98, 32, 49, 10, 97, 123, 120, 61, 34, 49, 34, 125, 32, 49, 10, 35, 32, 69, 79, 70]⟩ : ByteArray).data.toList = .error (13, 8) := by unfold readR; rw [show readO (⟨#[97, 32, 49, 10, 98, 32, 49, 10, 97, 123, 120, 61, 34, 49, 34, 125, 32, 49, 10, 35, 32, 69, 79, 70]⟩ : ByteArray).data.toList = _ from kro2]
    rw [e] at h
    simp only [ReadOP] at h
    have e2 := kfl2
    refine h.mono fun en w' hh => ?_
    obtain ⟨h1, h2⟩ := hh
    simp only [Int.cast_ofNat_Int] at h1
    rw [e2.1, e2.2] at h1
    exact ⟨⟨_, h1⟩, h2⟩
  have kR3 : ∀ W, Calls Tryz.prog 9 #[.string ⟨#[97, 32, 49]⟩] W fun en w' => (∃ l k, en = .returned (.tuple #[.slice none 0 0, .agg #[.int .i64 11, .int .i64 3, .int .i64 l, .int .i64 k]])) ∧ Below W.heap.size W w' := fun W => by
    have h := oread18_any ⟨#[97, 32, 49]⟩ W (by decide) (by
      show ∀ gs, readO [97, 32, 49] = .ok gs → _
      rw [kro3]; intro gs h; cases h)
    have e : readR (⟨#[97, 32, 49]⟩ : ByteArray).data.toList = .error (11, 3) := by unfold readR; rw [show readO (⟨#[97, 32, 49]⟩ : ByteArray).data.toList = _ from kro3]
    rw [e] at h
    simp only [ReadOP] at h
    have e2 := kfl3
    refine h.mono fun en w' hh => ?_
    obtain ⟨h1, h2⟩ := hh
    simp only [Int.cast_ofNat_Int] at h1
    rw [e2] at h1
    exact ⟨⟨_, _, h1⟩, h2⟩
  have kB : ∀ W, Calls Tryz.prog 15 #[.agg #[.string ⟨#[97]⟩, .int .i64 2, .string ⟨#[]⟩, .string ⟨#[]⟩], .string ⟨#[97, 95, 116, 111, 116, 97, 108]⟩] W fun e w' => e = .returned (.tuple #[.int .i64 0, .bool true]) ∧ Below W.heap.size W w' := fun W => by
    have h := belongs_any ⟨#[97]⟩ ⟨#[]⟩ ⟨#[]⟩ 2 ⟨#[97, 95, 116, 111, 116, 97, 108]⟩ W (by decide)
    have e : belZ (⟨#[97]⟩ : ByteArray).data.toList 2 (⟨#[97, 95, 116, 111, 116, 97, 108]⟩ : ByteArray).data.toList = some 0 := kbel
    rw [e] at h
    exact h
  have ef := fun a0 a1 a2 a3 b0 b1 b2 b3 w => eqFault a0 a1 a2 a3 b0 b1 b2 b3 w
  go_enter Tryz.func8, Tryz.ntmps8
  go_upto_region 2 with (go_at_call 9; (with_reducible refine (kR1 _).mono ?_); rintro en w1 ⟨⟨A1, c1, base1, fs1, rfl, hF, hm⟩, hb1⟩)
  have z1 : Blk (w1.alloc (.cells #[.int .i64 0, .int .i64 0, .int .i64 0, .int .i64 0] 31)) w1.heap.size 31 #[.int .i64 0, .int .i64 0, .int .i64 0, .int .i64 0] := Blk.new w1 _ _
  have hW1 := bl_alloc hb1 (.cells #[.int .i64 0, .int .i64 0, .int .i64 0, .int .i64 0] 31)
  have hF1 := hF.alloc (.cells #[.int .i64 0, .int .i64 0, .int .i64 0, .int .i64 0] 31)
  generalize hX1 : w1.alloc (.cells #[.int .i64 0, .int .i64 0, .int .i64 0, .int .i64 0] 31) = W1 at *
  clear hX1
  go_upto_region 3 with (go_at_call 9; (with_reducible refine (kR2 _).mono ?_); rintro en w2 ⟨⟨k2, rfl⟩, hb2⟩)
  have z2 : Blk (w2.alloc (.cells #[.int .i64 13, .int .i64 8, .int .i64 3, .int .i64 k2] 31)) w2.heap.size 31 #[.int .i64 13, .int .i64 8, .int .i64 3, .int .i64 k2] := Blk.new w2 _ _
  have hW2 := bl_alloc (bl_any hW1 hb2) (.cells #[.int .i64 13, .int .i64 8, .int .i64 3, .int .i64 k2] 31)
  have hF2 := (hF1.bel hb2).alloc (.cells #[.int .i64 13, .int .i64 8, .int .i64 3, .int .i64 k2] 31)
  have z1b := (z1.below hb2 (Blk.lt z1)).alloc (.cells #[.int .i64 13, .int .i64 8, .int .i64 3, .int .i64 k2] 31)
  generalize hX2 : w2.alloc (.cells #[.int .i64 13, .int .i64 8, .int .i64 3, .int .i64 k2] 31) = W2 at *
  clear hX2
  go_upto_region 4 with (go_at_call 9; (with_reducible refine (kR3 _).mono ?_); rintro en w3 ⟨⟨l3, k3, rfl⟩, hb3⟩)
  have z3 : Blk (w3.alloc (.cells #[.int .i64 11, .int .i64 3, .int .i64 l3, .int .i64 k3] 31)) w3.heap.size 31 #[.int .i64 11, .int .i64 3, .int .i64 l3, .int .i64 k3] := Blk.new w3 _ _
  have hW3 := bl_alloc (bl_any hW2 hb3) (.cells #[.int .i64 11, .int .i64 3, .int .i64 l3, .int .i64 k3] 31)
  have hF3 := (hF2.bel hb3).alloc (.cells #[.int .i64 11, .int .i64 3, .int .i64 l3, .int .i64 k3] 31)
  have z1c := (z1b.below hb3 (Blk.lt z1b)).alloc (.cells #[.int .i64 11, .int .i64 3, .int .i64 l3, .int .i64 k3] 31)
  have z2c := (z2.below hb3 (Blk.lt z2)).alloc (.cells #[.int .i64 11, .int .i64 3, .int .i64 l3, .int .i64 k3] 31)
  generalize hX3 : w3.alloc (.cells #[.int .i64 11, .int .i64 3, .int .i64 l3, .int .i64 k3] 31) = W3 at *
  clear hX3
  go_upto_region 5 with (go_at_call 15; (with_reducible refine (kB _).mono ?_); rintro en w4 ⟨rfl, hb4⟩)
  have hW4 := bl_any hW3 hb4
  obtain ⟨g, po, pb, cc, rfl, y1, y4, y5, d2, d8⟩ := fams_two (hF3.bel hb4) hm
  have z1d := z1c.below hb4 (Blk.lt z1c)
  have z2d := z2c.below hb4 (Blk.lt z2c)
  have z3d := z3.below hb4 (Blk.lt z3)
  clear hF hF1 hF2 hF3 hm z1 z1b z1c z2 z2c z3 hb1 hb2 hb3 hb4 hW1 hW2 hW3 kR1 kR2 kR3 kB
  have c10 := (Blk.cell z1d 0).trans rfl
  have c11 := (Blk.cell z1d 1).trans rfl
  have c12 := (Blk.cell z1d 2).trans rfl
  have c13 := (Blk.cell z1d 3).trans rfl
  have c20 := (Blk.cell z2d 0).trans rfl
  have c21 := (Blk.cell z2d 1).trans rfl
  have c22 := (Blk.cell z2d 2).trans rfl
  have c30 := (Blk.cell z3d 0).trans rfl
  have c31 := (Blk.cell z3d 1).trans rfl
  go_wp2_with fail
  go_ret
  exact ⟨rfl, hW4⟩
end
section
structure RowIn (l : List UInt8) (x : MRow) : Prop where
  off : x.off ≤ l.length
  pos : x.pos ≤ l.length
  whn : x.when_ ≤ l.length
  tgs : ∀ t ∈ x.tags, t.off ≤ l.length ∧ t.pos ≤ l.length
theorem otagsGo_in (l : List UInt8) : ∀ f a no acc, a ≤ l.length → (∀ t ∈ acc, t.off ≤ l.length ∧ t.pos ≤ l.length) → ∀ t ∈ (otagsGo l f a no acc).1, t.off ≤ l.length ∧ t.pos ≤ l.length
  | 0, a, no, acc, _, h => by simp only [otagsGo]; exact h
  | f + 1, a, no, acc, ha, h => by
    have hv : (otagS l a false).1.off ≤ l.length ∧ (otagS l a false).1.pos ≤ l.length := by
      unfold otagS
      simp only
      have h1 := nmS_le (l := l) owLabel false ha
      have h2 := wordS_le l wEq (nmS l owLabel a false).1 (nmS l owLabel a false).2 h1.2
      exact ⟨ha, h2.2⟩
    have hn : ∀ t ∈ acc ++ [(otagS l a false).1], t.off ≤ l.length ∧ t.pos ≤ l.length := fun t ht => by
      rcases List.mem_append.1 ht with ht | ht
      · exact h t ht
      · rw [List.mem_singleton.1 ht]; exact hv
    unfold otagsGo
    split
    · exact h
    · split
      · rename_i hi
        have := (isB_lt hi).1
        exact otagsGo_in l f ((otagS l a false).2.1 + 1) false (acc ++ [(otagS l a false).1]) (by omega) hn
      · exact hn
theorem otagsS_in (l : List UInt8) (a : Nat) (no : Bool) : ∀ t ∈ (otagsS l a no).1, t.off ≤ l.length ∧ t.pos ≤ l.length := by
  unfold otagsS
  split
  · rename_i hi
    have := (isB_lt hi).1
    split
    · simp
    · exact otagsGo_in l (l.length + 1) (a + 1) false [] (by omega) (by simp)
  · simp
theorem sampS_in (l : List UInt8) (a : Nat) (no : Bool) (ha : a ≤ l.length) : RowIn l (sampS l a no).1 := by
  unfold sampS
  simp only
  have ht := otagsS_in l (nmS l owName a no).1 (nmS l owName a no).2
  have h1 := nmS_le (l := l) owName no ha
  have h2 := otagsS_le (l := l) (nmS l owName a no).2 h1.2
  have h3 := wordS_le l [32] _ (otagsS l (nmS l owName a no).1 (nmS l owName a no).2).2.2 h2.2
  split
  · rename_i hi
    have h4 := (isB_lt hi).1
    exact ⟨ha, h3.2, h4, ht⟩
  · exact ⟨ha, h3.2, Nat.zero_le _, ht⟩
theorem otoldS_in (l : List UInt8) (kind : Nat) (word : List UInt8) (a : Nat) (no : Bool) (ha : a ≤ l.length) : RowIn l (otoldS l kind word a no).1 := by
  unfold otoldS
  simp only
  have h1 := wordS_le l word a no ha
  have h2 := nmS_le (l := l) owName (wordS l word a no).2 h1.2
  have h3 := wordS_le l [32] _ (nmS l owName (wordS l word a no).1 (wordS l word a no).2).2 h2.2
  exact ⟨h1.2, h3.2, Nat.zero_le _, by simp⟩
theorem olineS_in (l : List UInt8) (a : Nat) (ha : a ≤ l.length) : ∀ x ∈ (olineS l a).1.1.toList, RowIn l x := by
  unfold olineS
  have hw := wordS_le l wHash a false ha
  split
  · simp only
    split
    · intro x hx; simp at hx; subst hx; exact otoldS_in l 1 _ _ _ hw.2
    split
    · intro x hx; simp at hx; subst hx; exact otoldS_in l 2 _ _ _ hw.2
    split
    · intro x hx; simp at hx; subst hx; exact otoldS_in l 3 _ _ _ hw.2
    · simp
  · intro x hx; simp at hx; subst hx; exact sampS_in l _ _ ha
theorem orowsGo_in (l : List UInt8) : ∀ f a acc, a ≤ l.length → (∀ x ∈ acc, RowIn l x) → ∀ x ∈ (orowsGo l f a acc).1, RowIn l x
  | 0, a, acc, _, h => by simp only [orowsGo]; exact h
  | f + 1, a, acc, ha, h => by
    have hn : ∀ x ∈ acc ++ (olineS l a).1.1.toList, RowIn l x := fun x hx => by
      rcases List.mem_append.1 hx with hx | hx
      · exact h x hx
      · exact olineS_in l a ha x hx
    unfold orowsGo
    split
    · exact hn
    split
    · exact hn
    · exact orowsGo_in l f (olineS l a).2.1 (acc ++ (olineS l a).1.1.toList) (olineS_leO l a ha) hn
theorem openRows_in (l : List UInt8) : ∀ x ∈ (openRows l).1, RowIn l x := by
  have := orowsGo_in l (l.length + 2) 0 [] (Nat.zero_le _) (by simp)
  unfold openRows
  simpa using this
/-- Is it the place of a row, of one of a row's tags? -/
def atB (x : MRow) (o : Nat) : Bool := o == x.off || (o == x.pos || (x.timed && o == x.when_))
def tagB (t : MTag) (o : Nat) : Bool := o == t.off || o == t.pos
def placeB (rows : List MRow) (o : Nat) : Bool := rows.any fun x => atB x o || x.tags.any fun t => tagB t o
theorem place_of {x : MRow} {o : Nat} (h : atRow x o) : (atB x o || x.tags.any fun t => tagB t o) = true := by
  unfold atB tagB
  rcases h with h | h | ⟨h1, h2⟩ | ⟨t, ht, h⟩
  · simp [h]
  · simp [h]
  · simp [h1, h2]
  · rw [Bool.or_eq_true]
    right
    rw [List.any_eq_true]
    refine ⟨t, ht, ?_⟩
    rcases h with h | h <;> simp [h]
theorem syn_ok {l : List UInt8} {gs : List MFam} (h : readR l = .ok gs) : openBad l = -1 := by
  unfold readR readO at h
  unfold openBad
  split at h
  · cases h
  · rename_i hq
    split at hq
    · cases hq
    · split at hq
      · cases hq
      · rename_i h2
        rw [if_neg h2]
theorem syn_err {l : List UInt8} {c o : Nat} (h : readR l = .error (c, o)) (hl : l.length ≤ 4000) : ((openRows l).2.2 = true ∧ c = 11 ∧ openBad l = (o : Int)) ∨ (openBad l = -1 ∧ (openRows l).2.2 = false ∧ placeB (openRows l).1 o = true ∧ errC c ∧ o ≤ l.length) := by
  unfold readR readO at h
  unfold openBad
  split at h
  · rename_i hq
    injection h with h
    subst h
    split at hq
    · omega
    · split at hq
      · rename_i h2
        injection hq with hq
        injection hq with h3 h4
        left
        rw [if_pos h2]
        exact ⟨h2, h3.symm, by rw [h4]⟩
      · rename_i h2
        split at hq
        · rename_i e he
          injection hq with hq
          subst hq
          obtain ⟨⟨x, hx, ha⟩, hc⟩ := all_err _ _ he
          right
          refine ⟨by rw [if_neg h2], by simpa using h2, ?_, hc, ?_⟩
          · unfold placeB
            rw [List.any_eq_true]
            exact ⟨x, hx, place_of ha⟩
          · have hi := openRows_in l x hx
            rcases ha with ha | ha | ⟨_, ha⟩ | ⟨t, ht, ha | ha⟩
            · simp only at ha; rw [ha]; exact hi.off
            · simp only at ha; rw [ha]; exact hi.pos
            · simp only at ha; rw [ha]; exact hi.whn
            · simp only at ha; rw [ha]; exact (hi.tgs t ht).1
            · simp only at ha; rw [ha]; exact (hi.tgs t ht).2
        · cases hq
  · cases h
end
section
theorem clamp_inO (n o : Nat) (h : o ≤ n) : clampO n (o : Int) = (o : Int) := by unfold clampO; omega
theorem clamp_clampO (n : Nat) (o : Int) : clampO n (clampO n o) = clampO n o := by unfold clampO; omega
theorem good_atO (c o : Int) (s : ByteArray) : goodB c (fltO c s o) (fltL c s o) (fltC c s o) s = true := by
  have e1 : fltO c s (fltO c s o) = fltO c s o := by
    unfold fltO spotO; split
    · rfl
    · exact clamp_clampO _ _
  have e2 : fltL c s (fltO c s o) = fltL c s o := by
    unfold fltL fltO spotL spotO; split
    · rfl
    · rw [clamp_clampO]
  have e3 : fltC c s (fltO c s o) = fltC c s o := by
    unfold fltC fltO spotC spotO; split
    · rfl
    · rw [clamp_clampO]
  unfold goodB
  rw [e1, e2, e3]
  simp
theorem row_cellsY {w : World} {B b off n i : Nat} {l : List VRow} {x : VRow} (h : IsRows rowCell 10 w B (some ⟨b, off, none⟩) n l) (hx : l[i]? = some x) : w.cell? ⟨b, off + i * 10, none⟩ = some (.int .i64 x.row.kind) ∧ w.cell? ⟨b, off + i * 10 + 1, none⟩ = some (.string x.row.name) ∧ w.cell? ⟨b, off + i * 10 + 2, none⟩ = some (.int .i64 x.row.off) ∧ w.cell? ⟨b, off + i * 10 + 3, none⟩ = some (.slice x.tA x.row.tags.length x.tc) ∧ w.cell? ⟨b, off + i * 10 + 4, none⟩ = some (.slice x.fA x.row.fields.length x.fc) ∧ w.cell? ⟨b, off + i * 10 + 5, none⟩ = some (.string x.row.text) ∧ w.cell? ⟨b, off + i * 10 + 6, none⟩ = some (.int .i64 x.row.pos) ∧ w.cell? ⟨b, off + i * 10 + 7, none⟩ = some (.bool x.row.timed) ∧ w.cell? ⟨b, off + i * 10 + 8, none⟩ = some (.string x.row.time) ∧ w.cell? ⟨b, off + i * 10 + 9, none⟩ = some (.int .i64 x.row.when_) := by
  have hi : i < l.length := (List.getElem?_eq_some_iff.1 hx).1
  have hl := h.1
  obtain ⟨b', off', e, hb, hc⟩ := h.2 (by omega)
  injection e with e
  injection e with e1 e2
  subst e1; subst e2
  exact ⟨hc i x 0 _ hx rfl, hc i x 1 _ hx rfl, hc i x 2 _ hx rfl, hc i x 3 _ hx rfl, hc i x 4 _ hx rfl, hc i x 5 _ hx rfl, hc i x 6 _ hx rfl, hc i x 7 _ hx rfl, hc i x 8 _ hx rfl, hc i x 9 _ hx rfl⟩
theorem tag_cellsY {w : World} {B b off n i : Nat} {l : List MTag} {x : MTag} (h : IsRows tagCell 4 w B (some ⟨b, off, none⟩) n l) (hx : l[i]? = some x) : w.cell? ⟨b, off + i * 4, none⟩ = some (.string x.name) ∧ w.cell? ⟨b, off + i * 4 + 1, none⟩ = some (.string x.value) ∧ w.cell? ⟨b, off + i * 4 + 2, none⟩ = some (.int .i64 x.off) ∧ w.cell? ⟨b, off + i * 4 + 3, none⟩ = some (.int .i64 x.pos) := by
  have hi : i < l.length := (List.getElem?_eq_some_iff.1 hx).1
  have hl := h.1
  obtain ⟨b', off', e, hb, hc⟩ := h.2 (by omega)
  injection e with e
  injection e with e1 e2
  subst e1; subst e2
  exact ⟨hc i x 0 _ hx rfl, hc i x 1 _ hx rfl, hc i x 2 _ hx rfl, hc i x 3 _ hx rfl⟩
theorem beqNI (a b : Nat) : ((a : Int) == (b : Int)) = (a == b) := by rw [Bool.eq_iff_iff]; simp; omega
theorem any_step {α : Type} {l : List α} {k : Nat} {t : α} (f : α → Bool) (h : l[k]? = some t) : (l.take (k + 1)).any f = ((l.take k).any f || f t) := by
  have hk := (List.getElem?_eq_some_iff.1 h).1
  rw [List.take_add_one, h, List.any_append]
  simp
theorem place_step {rows : List MRow} {j o : Nat} {x : MRow} (h : rows[j]? = some x) : placeB (rows.take (j + 1)) o = (placeB (rows.take j) o || (atB x o || x.tags.any fun t => tagB t o)) := any_step _ h
/-- The fault's box, what stood before. -/
structure SyF (w0 w : World) (f : Nat) (c o l q : Int) : Prop where
  fb : Blk w f 31 #[.int .i64 c, .int .i64 o, .int .i64 l, .int .i64 q]
  bl : Below w0.heap.size w0 w
theorem SyF.below {w0 w w' : World} {f : Nat} {c o l q : Int} (h : SyF w0 w f c o l q) (a : Below w.heap.size w w') : SyF w0 w' f c o l q :=
  ⟨h.fb.below a (Blk.lt h.fb), bl_any h.bl a⟩
theorem SyF.drew {w0 w : World} {f : Nat} {c o l q : Int} (h : SyF w0 w f c o l q) : SyF w0 w.drew f c o l q := ⟨h.fb, h.bl.drew⟩
theorem SyF.fs {w0 w : World} {f : Nat} {c o l q : Int} (h : SyF w0 w f c o l q) : (w.cell? ⟨f, 0, none⟩ = some (.int .i64 c) ∧ w.cell? ⟨f, 1, none⟩ = some (.int .i64 o) ∧ w.cell? ⟨f, 2, none⟩ = some (.int .i64 l) ∧ w.cell? ⟨f, 3, none⟩ = some (.int .i64 q)) ∧ SyF w0 w f c o l q :=
  ⟨⟨(Blk.cell h.fb 0).trans rfl, (Blk.cell h.fb 1).trans rfl, (Blk.cell h.fb 2).trans rfl, (Blk.cell h.fb 3).trans rfl⟩, h⟩
set_option maxRecDepth 100000 in
set_option maxHeartbeats 6400000 in
theorem syntax18_any (s : ByteArray) (w : World) (hs : s.size ≤ 9223372036854775807) :
    Calls Tryz.prog 4 #[.string s] w fun e w' => e = .returned (.bool true) ∧ Below w.heap.size w w' := by
  have kK := known18_any w
  by_cases h1500 : 1500 < s.size
  · have hd1 : decide ((1500 : Int) < s.size) = true := decide_eq_true (by omega)
    have hd1n : decide (1500 < s.size) = true := decide_eq_true h1500
    go_enter Tryz.func4, Tryz.ntmps4
    go_wp2_with (go_at_call 8; (with_reducible refine kK.mono ?_); rintro en w1 ⟨rfl, hb1⟩)
    go_ret
    exact ⟨rfl, hb1⟩
  have hd1 : decide ((1500 : Int) < s.size) = false := decide_eq_false (by omega)
  have hd1n : decide (1500 < s.size) = false := decide_eq_false h1500
  have hz : s.size ≤ 1500 := by omega
  have hL : s.data.toList.length = s.size := by simp
  have kR := fun W => oread18_all s W (by omega)
  have kB := fun W => bad_any' s W (by omega)
  cases hR : readR s.data.toList with
  | ok gs =>
    have hbd := syn_ok hR
    rw [hR] at kR
    rw [hbd] at kB
    have kR' : ∀ W, Calls Tryz.prog 9 #[.string s] W fun en w' => (∃ A n c, en = .returned (.tuple #[.slice A n c, .agg #[.int .i64 0, .int .i64 0, .int .i64 0, .int .i64 0]])) ∧ Below W.heap.size W w' := fun W => (kR W).mono fun en w' ⟨⟨A, c, _, fs, h1, _⟩, h3⟩ => ⟨⟨A, _, c, h1⟩, h3⟩
    clear kR hR hbd
    go_enter Tryz.func4, Tryz.ntmps4
    go_upto_region 6 with (first
      | (go_at_call 8; (with_reducible refine kK.mono ?_); rintro en w1 ⟨rfl, hb1⟩)
      | (go_at_call 9; (with_reducible refine (kR' _).mono ?_); rintro en w2 ⟨⟨A, n, cc, rfl⟩, hb2⟩))
    have hF := Blk.new w2 31 #[.int .i64 0, .int .i64 0, .int .i64 0, .int .i64 0]
    have hb4 := bl_alloc (bl_any hb1 hb2) (.cells #[.int .i64 0, .int .i64 0, .int .i64 0, .int .i64 0] 31)
    generalize w2.alloc (.cells #[.int .i64 0, .int .i64 0, .int .i64 0, .int .i64 0] 31) = W4 at *
    generalize w2.heap.size = f at *
    have ef := fun a0 a1 a2 a3 b0 b1 b2 b3 w => eqFault a0 a1 a2 a3 b0 b1 b2 b3 w
    go_upto_region 9 with (go_at_call 11; (with_reducible refine (kB _).mono ?_); rintro en w5 ⟨rfl, hb5⟩; have hF5 := hF.below hb5 (Blk.lt hF); have f0 := (Blk.cell hF5 0).trans rfl; have f1 := (Blk.cell hF5 1).trans rfl; have f2 := (Blk.cell hF5 2).trans rfl; have f3 := (Blk.cell hF5 3).trans rfl)
    go_wp2_with fail
    go_ret
    exact ⟨rfl, bl_any hb4 hb5⟩
  | error x =>
    obtain ⟨c, o⟩ := x
    have hse := syn_err hR (by omega)
    rw [hR] at kR
    simp only [ReadOP] at kR
    clear hR
    rcases hse with ⟨h2, rfl, hbd⟩ | ⟨hbd, h2, hpl, hc, hol⟩
    · rw [hbd] at kB
      have kAt := fun W => spAt_any 11 s (o : Int) W (by omega)
      have ho0 : decide ((0 : Int) ≤ (o : Int)) = true := decide_eq_true (by omega)
      have ho0n : decide (0 ≤ o) = true := decide_eq_true (by omega)
      simp only [Int.cast_ofNat_Int] at kR
      clear h2 hbd
      generalize fltO 11 s (o : Int) = fo at *
      generalize fltL 11 s (o : Int) = fl at *
      generalize fltC 11 s (o : Int) = fc at *
      go_enter Tryz.func4, Tryz.ntmps4
      go_upto_region 6 with (first
        | (go_at_call 8; (with_reducible refine kK.mono ?_); rintro en w1 ⟨rfl, hb1⟩)
        | (go_at_call 9; (with_reducible refine (kR _).mono ?_); rintro en w2 ⟨rfl, hb2⟩))
      have hF := Blk.new w2 31 #[.int .i64 11, .int .i64 fo, .int .i64 fl, .int .i64 fc]
      have hb4 := bl_alloc (bl_any hb1 hb2) (.cells #[.int .i64 11, .int .i64 fo, .int .i64 fl, .int .i64 fc] 31)
      generalize w2.alloc (.cells #[.int .i64 11, .int .i64 fo, .int .i64 fl, .int .i64 fc] 31) = W4 at *
      generalize w2.heap.size = f at *
      have ef := fun a0 a1 a2 a3 b0 b1 b2 b3 w => eqFault a0 a1 a2 a3 b0 b1 b2 b3 w
      go_upto_region 8 with (go_at_call 11; (with_reducible refine (kB _).mono ?_); rintro en w5 ⟨rfl, hb5⟩; have hF5 := hF.below hb5 (Blk.lt hF); have f0 := (Blk.cell hF5 0).trans rfl; have f1 := (Blk.cell hF5 1).trans rfl; have f2 := (Blk.cell hF5 2).trans rfl; have f3 := (Blk.cell hF5 3).trans rfl)
      have hS : SyF w w5 f 11 fo fl fc := ⟨hF5, bl_any hb4 hb5⟩
      clear hF hF5 hb4 hb5 hb1 hb2 kR kB f0 f1 f2 f3
      go_region_held3 (fun w' => (w'.cell? ⟨f, 0, none⟩ = some (.int .i64 11) ∧ w'.cell? ⟨f, 1, none⟩ = some (.int .i64 fo) ∧ w'.cell? ⟨f, 2, none⟩ = some (.int .i64 fl) ∧ w'.cell? ⟨f, 3, none⟩ = some (.int .i64 fc)) ∧ SyF w w' f 11 fo fl fc) (first | (with_reducible assumption) | (with_reducible exact hS.drew.fs)) (first
        | (go_at_call 10; (with_reducible refine (kAt _).mono ?_); rintro en w5 ⟨rfl, hb5⟩; have S5 := (SyF.below (And.right (by with_reducible assumption)) hb5).fs))
      all_goals
        rename_i hHeld
        obtain ⟨_, hY⟩ := hHeld
        go_wp2_with fail
        go_ret
        exact ⟨rfl, hY.bl⟩
    · have hcn : (c : Int) ≠ 0 ∧ (c : Int) ≠ 11 := by unfold errC at hc; omega
      have hc0 : ((c : Int) == 0) = false := by simp; omega
      have hc1 : ((c : Int) != 11) = true := by simp; omega
      have kRw := fun W => rowsC_any s W (by omega)
      have kG := fun W => good_any (c : Int) (fltO c s o) (fltL c s o) (fltC c s o) s W (by omega)
      rw [good_atO] at kG
      have eo : fltO c s o = (o : Int) := by
        unfold fltO spotO
        rw [if_neg hcn.1]
        exact clamp_inO _ _ (by omega)
      rw [eo] at kG kR
      rw [hbd] at kB
      have ho63 : o ≤ 1500 := by omega
      obtain ⟨hnr, hok⟩ := openRows_ok s.data.toList
      rw [hL] at hnr
      unfold RowsCE at kRw
      rw [h2] at kRw
      simp only [Bool.not_false, Bool.false_eq_true, if_false] at kRw
      generalize (openRows s.data.toList).1 = rows at *
      generalize fltL c s o = fl at *
      generalize fltC c s o = fc at *
      generalize (c : Int) = C at *
      have HP := Lib.hid hpl
      have HT : Hid (∀ x ∈ rows, x.tags.length ≤ s.size + 1) := Lib.hid (fun x hx => by have := (hok x hx).tags; omega)
      clear hpl hok h2 hbd hc hcn eo
      go_enter Tryz.func4, Tryz.ntmps4
      go_upto_region 6 with (first
        | (go_at_call 8; (with_reducible refine kK.mono ?_); rintro en w1 ⟨rfl, hb1⟩)
        | (go_at_call 9; (with_reducible refine (kR _).mono ?_); rintro en w2 ⟨rfl, hb2⟩))
      have hF := Blk.new w2 31 #[.int .i64 C, .int .i64 (o : Int), .int .i64 fl, .int .i64 fc]
      have hb4 := bl_alloc (bl_any hb1 hb2) (.cells #[.int .i64 C, .int .i64 (o : Int), .int .i64 fl, .int .i64 fc] 31)
      generalize w2.alloc (.cells #[.int .i64 C, .int .i64 (o : Int), .int .i64 fl, .int .i64 fc] 31) = W4 at *
      generalize w2.heap.size = f at *
      go_upto_region 9 with (go_at_call 11; (with_reducible refine (kB _).mono ?_); rintro en w5 ⟨rfl, hb5⟩; have hF5 := hF.below hb5 (Blk.lt hF); have f0 := (Blk.cell hF5 0).trans rfl; have f1 := (Blk.cell hF5 1).trans rfl; have f2 := (Blk.cell hF5 2).trans rfl; have f3 := (Blk.cell hF5 3).trans rfl)
      have hS : SyF w w5 f C o fl fc := ⟨hF5, bl_any hb4 hb5⟩
      clear hF hF5 hb4 hb5 hb1 hb2 kR kB f1 f2 f3
      go_upto_region 12 with (go_at_call 12; (with_reducible refine (kRw _).mono ?_); rintro en w6 ⟨⟨A, n, cc, rfl, hrows⟩, hb6⟩)
      have hS6 := hS.below hb6
      obtain ⟨l, hl, hI, hTg⟩ := hrows
      have hln := hI.1
      have HI := Lib.hid hI
      have HTg := Lib.hid hTg
      have HL := Lib.hid hl
      have hn2 : n ≤ 1502 := by rw [← hl, List.length_map] at hnr; omega
      clear hI hTg hl hS hb6 kRw hnr hln hL
      generalize hB6 : w6.heap.size = B6 at *
      have hB6' : B6 ≤ w6.heap.size := by omega
      clear hB6
      go_wp2_with fail
      go_loopw [8, 9] (fun va vi wr => ∃ j : Nat, j ≤ n ∧ vi = .int .i64 (j : Int) ∧ va = .bool (placeB (rows.take j) o) ∧ SyF w wr f C o fl fc ∧ Below B6 w6 wr) (fun _ vi _ => n - (intOf vi).toNat)
      case atStart => exact ⟨0, by omega, rfl, rfl, hS6, Below.refl _ _⟩
      case round =>
        obtain ⟨j, hj, rfl, rfl, hS7, hb7⟩ := hrel
        clear hS6
        by_cases hlt : j < n
        case neg =>
          have hd : decide ((j : Int) < (n : Int)) = false := decide_eq_false (by omega)
          have hp1 : placeB (rows.take j) o = true := by
            rw [List.take_of_length_le (by have := HI.out.1; rw [← HL.out, List.length_map]; omega)]
            exact HP.out
          rw [hp1]
          obtain ⟨⟨f0, f1, f2, f3⟩, _⟩ := hS7.fs
          clear hp1
          go_wp2_with (go_at_call 13; (with_reducible refine (kG _).mono ?_); rintro en w8 ⟨rfl, hb8⟩; have hS8 := hS7.below hb8; have f0 := hS8.fs.1.1)
          go_ret
          exact ⟨rfl, hS8.bl⟩
        case pos =>
          have hd : decide ((j : Int) < (n : Int)) = true := decide_eq_true (by omega)
          have jz : (j : Int) < (n : Int) := by omega
          have j0 : (0 : Int) ≤ (j : Int) := by omega
          have hI7 := HI.out.below hb7
          have hln := HI.out.1
          obtain ⟨x, hx⟩ : ∃ x, l[j]? = some x := ⟨_, List.getElem?_eq_getElem (by omega)⟩
          obtain ⟨b, off, rfl, _, _⟩ := hI7.2 (by omega)
          obtain ⟨c0, c1, c2, c3, c4, c5, c6, c7, c8, c9⟩ := row_cellsY hI7 hx
          have hTx := (HTg.out x (List.mem_of_getElem? hx)).1.below hb7
          have hrx : rows[j]? = some x.row := by rw [← HL.out, List.getElem?_map, hx]; rfl
          have hxt := HT.out x.row (List.mem_of_getElem? hrx)
          have HX := Lib.hid hrx
          clear hI7 hx hrx hln
          generalize hPJ : placeB (rows.take j) o = P at *
          have HPJ := Lib.hid hPJ
          clear hPJ
          go_upto_region 17 with (fail)
          clear c0 c1 c2 c3 c4 c5 c6 c7 c8 c9
          have hR := Blk.new wr 43 #[.int .i64 x.row.kind, .string x.row.name, .int .i64 x.row.off, .slice x.tA x.row.tags.length x.tc, .slice x.fA x.row.fields.length x.fc, .string x.row.text, .int .i64 x.row.pos, .bool x.row.timed, .string x.row.time, .int .i64 x.row.when_]
          have hal : Below B6 wr (wr.alloc (.cells #[.int .i64 x.row.kind, .string x.row.name, .int .i64 x.row.off, .slice x.tA x.row.tags.length x.tc, .slice x.fA x.row.fields.length x.fc, .string x.row.text, .int .i64 x.row.pos, .bool x.row.timed, .string x.row.time, .int .i64 x.row.when_] 43)) := (Below.refl _ _).alloc (by have := hb7.size; omega) _
          have hb8 := hb7.trans hal
          have hT8 := hTx.below hal
          have hS8 := hS7.below ((Below.refl wr.heap.size wr).alloc (Nat.le_refl _) (.cells #[.int .i64 x.row.kind, .string x.row.name, .int .i64 x.row.off, .slice x.tA x.row.tags.length x.tc, .slice x.fA x.row.fields.length x.fc, .string x.row.text, .int .i64 x.row.pos, .bool x.row.timed, .string x.row.time, .int .i64 x.row.when_] 43))
          have hz8 : B6 ≤ wr.heap.size := by have := hb7.size; omega
          clear hal hTx
          generalize wr.alloc (.cells #[.int .i64 x.row.kind, .string x.row.name, .int .i64 x.row.off, .slice x.tA x.row.tags.length x.tc, .slice x.fA x.row.fields.length x.fc, .string x.row.text, .int .i64 x.row.pos, .bool x.row.timed, .string x.row.time, .int .i64 x.row.when_] 43) = W8 at *
          generalize hg : wr.heap.size = g at *
          clear hg hS7 hb7
          have q1 := beqNI o x.row.off
          have q2 := beqNI o x.row.pos
          have q3 := beqNI o x.row.when_
          have eA : atB x.row o = ((o == x.row.off) || ((o == x.row.pos) || (x.row.timed && (o == x.row.when_)))) := rfl
          have EA := Lib.hid eA
          clear eA
          go_cut [8] from 57 to 85 (fun v wx => v = .bool (P || ((o == x.row.off) || ((o == x.row.pos) || (x.row.timed && (o == x.row.when_))))) ∧ wx = W8)
          case first =>
            obtain ⟨⟨f0, f1, f2, f3⟩, _⟩ := hS8.fs
            have g2 := (Blk.cell hR 2).trans rfl
            have g6 := (Blk.cell hR 6).trans rfl
            have g7 := (Blk.cell hR 7).trans rfl
            have g9 := (Blk.cell hR 9).trans rfl
            generalize x.row.timed = T at *
            generalize (o == x.row.off) = a1 at *
            generalize (o == x.row.pos) = a2 at *
            generalize (o == x.row.when_) = a3 at *
            cases P <;> cases a1 <;> cases a2 <;> cases T <;> cases a3 <;> (go_wp2_with fail; go_meet; exact ⟨rfl, rfl⟩)
          case rest =>
          obtain ⟨rfl, hwc⟩ := hcut
          rw [hwc]
          clear hwc wc
          rw [← EA.out]
          clear q1 q2 q3
          generalize hP2 : (P || atB x.row o) = P2 at *
          have HP2 := Lib.hid hP2
          clear hP2 EA
          generalize hm : x.row.tags.length = m at *
          have HM := Lib.hid hm
          clear hm
          go_wp2_with fail
          go_loopw [8, 11] (fun va vk wx => ∃ k : Nat, k ≤ m ∧ vk = .int .i64 (k : Int) ∧ va = .bool (P2 || (x.row.tags.take k).any fun t => tagB t o) ∧ SyF w wx f C o fl fc ∧ Below B6 w6 wx ∧ IsRows tagCell 4 wx B6 x.tA m x.row.tags ∧ wx.cell? ⟨g, 3, none⟩ = some (.slice x.tA m x.tc)) (fun _ vk _ => m - (intOf vk).toNat)
          case atStart => exact ⟨0, by omega, rfl, by simp, hS8, hb8, hT8, (Blk.cell hR 3).trans rfl⟩
          case round =>
            obtain ⟨k, hk, rfl, rfl, hS9, hb9, hT9, g3⟩ := hrel
            clear hS8 hb8 hT8 hR
            by_cases hkm : k < m
            case neg =>
              have hd2 : decide ((k : Int) < (m : Int)) = false := decide_eq_false (by omega)
              have HF : Hid ((P2 || (x.row.tags.take k).any fun t => tagB t o) = placeB (rows.take (j + 1)) o) := Lib.hid (by
                rw [List.take_of_length_le (by have := HM.out; omega), place_step HX.out, HPJ.out, ← HP2.out, Bool.or_assoc])
              generalize (P2 || (x.row.tags.take k).any fun t => tagB t o) = P3 at *
              go_wp2_with fail
              exact ⟨⟨j + 1, by omega, by simp, by rw [HF.out], hS9, hb9⟩, by (simp only [intOf]; omega)⟩
            case pos =>
              have hd2 : decide ((k : Int) < (m : Int)) = true := decide_eq_true (by omega)
              have kz : (k : Int) < (m : Int) := by omega
              have kz0 : (0 : Int) ≤ (k : Int) := by omega
              obtain ⟨b2, off2, hA2, _, _⟩ := hT9.2 (by omega)
              rw [hA2] at g3 hT9
              obtain ⟨t, ht⟩ : ∃ t, x.row.tags[k]? = some t := ⟨_, List.getElem?_eq_getElem (by have := HM.out; omega)⟩
              obtain ⟨_, _, t2, t3⟩ := tag_cellsY hT9 ht
              rw [← hA2] at hT9
              have HA2 := Lib.hid hA2
              clear hA2
              obtain ⟨⟨f0, f1, f2, f3⟩, _⟩ := hS9.fs
              have HST : Hid ((P2 || (x.row.tags.take (k + 1)).any fun t => tagB t o) = ((P2 || (x.row.tags.take k).any fun t => tagB t o) || ((o == t.off) || (o == t.pos)))) := Lib.hid (by rw [any_step _ ht, Bool.or_assoc]; rfl)
              have q1 := beqNI o t.off
              have q2 := beqNI o t.pos
              generalize (P2 || (x.row.tags.take k).any fun t => tagB t o) = P3 at *
              generalize (o == t.off) = a1 at *
              generalize (o == t.pos) = a2 at *
              clear ht
              have hSd := hS9.drew
              have hbd9 := hb9.trans (Below.refl B6 wr).drew
              cases P3 <;> cases a1 <;> cases a2 <;> (go_upto_region 21 with (fail); go_region; go_wp2_with fail; exact ⟨⟨k + 1, by omega, by simp, by rw [HST.out]; rfl, hSd, hbd9, hT9, by rw [HA2.out]; exact g3⟩, by (simp only [intOf]; omega)⟩)
end
end Go.Proofs.YtcapbikelgcmmaaGreatDoor
