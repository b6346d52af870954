/- The walk of openread.Read (wip/gen/ordw.py prints it). The walk of polyglotlaw18's known (wip/gen/k18.py prints it). The tables of OpenRanges and OpenTwice, as they stand in memory (wip/gen/s18.py prints it). The walk of OpenRanges (wip/gen/s18.py prints it). The walk of OpenTwice (wip/gen/s18.py prints it). -/
import Derived.Test.YtcapbikelgcmmaaGreatDoorMgTe9
import Derived.Test.YtcapbikelgcmmaaGreatDoorMgPl9
import Derived.Test.YtcapbikelgcmmaaGreatDoorMgSt9
import Derived.Deep.RegionLaw
import Derived.Deep.LoopGhost
namespace Go.Proofs.YtcapbikelgcmmaaGreatDoor
set_option linter.unusedVariables false
set_option linter.unusedSimpArgs false
open Go.RowKit
section
/-- What Read tells. -/
def ReadOP (s : ByteArray) (w' : World) : Except OErr (List MFam) → Ending → Prop
  | .error x, en => en = .returned (.tuple #[.slice none 0 0, .agg #[.int .i64 (x.1 : Int), .int .i64 (fltO x.1 s x.2), .int .i64 (fltL x.1 s x.2), .int .i64 (fltC x.1 s x.2)]])
  | .ok gs, en => ∃ (A : Option Addr) (c base : Nat) (fs : List VFam), en = .returned (.tuple #[.slice A gs.length c, .agg #[.int .i64 0, .int .i64 0, .int .i64 0, .int .i64 0]]) ∧ FamsAt w' base (.slice A gs.length c) fs ∧ fs.map VFam.fam = gs ∧ (∀ f ∈ fs, ∀ y ∈ f.pts, PntOk y.pt)
theorem bl_any5 {a b : World} {F : Nat} {i0 i1 i2 i3 : Nat} {u0 u1 u2 u3 : Value} (h : Below a.heap.size a b) (hF : a.heap.size ≤ F) : Below a.heap.size a ((((b.setCell ⟨F, i0, none⟩ u0).setCell ⟨F, i1, none⟩ u1).setCell ⟨F, i2, none⟩ u2).setCell ⟨F, i3, none⟩ u3) := bl_set (bl_set (bl_set (bl_set h hF _) hF _) hF _) hF _
theorem own_lowB {w : World} {base base' : Nat} {fv : Value} {fs : List VFam} (h : FamsAt w base fv fs) (hb : base' ≤ base) : FamsAt w base' fv fs := ⟨own_lowL h.own hb, fun f hf => own_lowL (h.pts f hf) hb, h.dis, fun f hf x hx => own_lowL (h.lab f hf x hx) hb⟩
theorem turnP_fam (x : VFam) {qs : List VPnt} {A : Option Addr} {c : Nat} (hq : qs.map VPnt.pt = sortC cmpPntK (x.pts.map VPnt.pt)) : (x.turnP qs A c).fam = sortF x.fam := by
  simp [VFam.turnP, VFam.fam, sortF, hq]
theorem at_step {gs : List MFam} {fsj : List VFam} {j : Nat} {X : VFam} (hm : fsj.map VFam.fam = (gs.take j).map sortF ++ gs.drop j) (hX : fsj[j]? = some X) : gs[j]? = some X.fam := by
  have hl : fsj.length = gs.length := by
    have := congrArg List.length hm
    simp only [List.length_map, List.length_append, List.length_take, List.length_drop] at this
    omega
  have hj : j < gs.length := by rw [← hl]; exact (List.getElem?_eq_some_iff.1 hX).1
  have e : (fsj.map VFam.fam)[j]? = some X.fam := by rw [List.getElem?_map, hX]; rfl
  rw [hm, List.getElem?_append_right (by simp; omega)] at e
  simpa [List.length_take, Nat.min_eq_left (Nat.le_of_lt hj)] using e
theorem step_len {gs : List MFam} {fsj : List VFam} {j : Nat} (hm : fsj.map VFam.fam = (gs.take j).map sortF ++ gs.drop j) : fsj.length = gs.length := by
  have := congrArg List.length hm
  simp only [List.length_map, List.length_append, List.length_take, List.length_drop] at this
  omega
theorem set_step {gs : List MFam} {fsj : List VFam} {j : Nat} {X Y : VFam} (hm : fsj.map VFam.fam = (gs.take j).map sortF ++ gs.drop j) (hX : fsj[j]? = some X) (hY : Y.fam = sortF X.fam) : (fsj.set j Y).map VFam.fam = (gs.take (j + 1)).map sortF ++ gs.drop (j + 1) ∧ gs[j]? = some X.fam := by
  have hl : fsj.length = gs.length := by
    have := congrArg List.length hm
    simp only [List.length_map, List.length_append, List.length_take, List.length_drop] at this
    omega
  have hj : j < gs.length := by rw [← hl]; exact (List.getElem?_eq_some_iff.1 hX).1
  have hg : gs[j]? = some X.fam := by
    have e : (fsj.map VFam.fam)[j]? = some X.fam := by rw [List.getElem?_map, hX]; rfl
    rw [hm, List.getElem?_append_right (by simp; omega)] at e
    simpa [List.length_take, Nat.min_eq_left (Nat.le_of_lt hj)] using e
  refine ⟨?_, hg⟩
  have hgj : gs[j] = X.fam := (List.getElem?_eq_some_iff.1 hg).2
  rw [List.map_set, hm, hY, List.take_succ_eq_append_getElem hj, List.map_append, hgj]
  have hlt : ((gs.take j).map sortF).length = j := by simp; omega
  rw [List.set_append_right _ _ (by omega), hlt, Nat.sub_self, List.drop_eq_getElem_cons hj, List.set_cons_zero]
  simp
set_option maxRecDepth 100000 in
set_option maxHeartbeats 12800000 in
theorem oread18_any (s : ByteArray) (w : World) (hs : s.size ≤ 1048575) (H1 : ∀ gs, readO s.data.toList = .ok gs → ∀ g ∈ gs, g.pts.length < 20) :
    Calls Tryz.prog 9 #[.string s] w fun en w' => ReadOP s w' (readR s.data.toList) en ∧ Below w.heap.size w w' := by
  have hL : s.data.toList.length = s.size := by simp
  have hs5 : s.size ≤ 4611686018427387903 := by omega
  have k14 : ∀ W, Calls Tryz.prog 10 #[.int .i64 14, .string s, .int .i64 0] W fun e w' => e = .returned (.agg #[.int .i64 14, .int .i64 (fltO 14 s 0), .int .i64 (fltL 14 s 0), .int .i64 (fltC 14 s 0)]) ∧ Below W.heap.size W w' := fun W => spAt_any 14 s 0 W hs5
  have k11 : ∀ o W, Calls Tryz.prog 10 #[.int .i64 11, .string s, .int .i64 o] W fun e w' => e = .returned (.agg #[.int .i64 11, .int .i64 (fltO 11 s o), .int .i64 (fltL 11 s o), .int .i64 (fltC 11 s o)]) ∧ Below W.heap.size W w' := fun o W => spAt_any 11 s o W hs5
  have hF0 := Blk.new w 31 #[.int .i64 0, .int .i64 0, .int .i64 0, .int .i64 0]
  have hb0 : Below w.heap.size w (w.alloc (.cells #[.int .i64 0, .int .i64 0, .int .i64 0, .int .i64 0] 31)) := (Below.refl _ _).alloc (Nat.le_refl _) _
  unfold readR
  obtain ⟨R, hR⟩ : ∃ R, readO s.data.toList = R := ⟨_, rfl⟩
  rw [hR] at H1 ⊢
  unfold readO at hR
  rw [hL] at hR
  by_cases h4 : 4000 < s.size
  case pos =>
    rw [if_pos h4] at hR
    subst hR
    have d4 : decide ((4000 : Int) < (s.size : Int)) = true := decide_eq_true (by omega)
    have d4n : decide (4000 < s.size) = true := decide_eq_true h4
    simp only [ReadOP]
    clear H1
    go_enter Tryz.func9, Tryz.ntmps9
    go_wp2_with (go_at_call 10; (with_reducible refine (k14 _).mono ?_); rintro en w1 ⟨rfl, hb1⟩; have h1 := hF0.below hb1 (by simp); have c0 := (Blk.cell h1 0).trans rfl; have c1 := (Blk.cell h1 1).trans rfl; have c2 := (Blk.cell h1 2).trans rfl; have c3 := (Blk.cell h1 3).trans rfl; have f0 := Blk.frozen h1 0; have f1 := Blk.frozen h1 1; have f2 := Blk.frozen h1 2; have f3 := Blk.frozen h1 3)
    refine bodyPost_ret (v := .tuple #[.slice none 0 0, .agg #[.int .i64 14, .int .i64 (fltO 14 s 0), .int .i64 (fltL 14 s 0), .int .i64 (fltC 14 s 0)]]) (by simp [results, Tryz.results9, go_sem, c0, c1, c2, c3]) rfl ⟨rfl, ?_⟩
    exact bl_any5 (bl_any hb0 hb1) (Nat.le_refl _)
  case neg =>
    rw [if_neg h4] at hR
    have d4 : decide ((4000 : Int) < (s.size : Int)) = false := decide_eq_false (by omega)
    have d4n : decide (4000 < s.size) = false := decide_eq_false h4
    have kRw := fun W => rowsC_any s W (by omega)
    have kB := fun W => bad_any' s W (by omega)
    obtain ⟨hlen, hok⟩ := openRows_ok s.data.toList
    rw [hL] at hlen
    unfold openBad at kB
    generalize openRows s.data.toList = Q at *
    obtain ⟨Q1, Qa, Qn⟩ := Q
    cases Qn
    case true =>
      simp only [if_true] at hR kB
      subst hR
      simp only [ReadOP]
      clear hok hlen H1
      have kRw' : ∀ W, Calls Tryz.prog 12 #[.string s] W fun e w' => (∃ A n c, e = .returned (.tuple #[.slice A n c, .bool false])) ∧ Below W.heap.size W w' := fun W => (kRw W).mono fun e w' ⟨⟨A, n, c, h1, _⟩, h3⟩ => ⟨⟨A, n, c, h1⟩, h3⟩
      clear kRw
      go_enter Tryz.func9, Tryz.ntmps9
      go_wp2_with (first
        | (go_at_call 12; (with_reducible refine (kRw' _).mono ?_); rintro en w1 ⟨⟨A, n, cc, rfl⟩, hb1⟩; have h1 := hF0.below hb1 (by simp))
        | (go_at_call 11; (with_reducible refine (kB _).mono ?_); rintro en w2 ⟨rfl, hb2⟩; have h2 := h1.below hb2 (Blk.lt h1))
        | (go_at_call 10; (with_reducible refine (k11 _ _).mono ?_); rintro en w3 ⟨rfl, hb3⟩; have h3 := h2.below hb3 (Blk.lt h2); have c0 := (Blk.cell h3 0).trans rfl; have c1 := (Blk.cell h3 1).trans rfl; have c2 := (Blk.cell h3 2).trans rfl; have c3 := (Blk.cell h3 3).trans rfl; have f0 := Blk.frozen h3 0; have f1 := Blk.frozen h3 1; have f2 := Blk.frozen h3 2; have f3 := Blk.frozen h3 3))
      refine bodyPost_ret (v := .tuple #[.slice none 0 0, .agg #[.int .i64 11, .int .i64 (fltO 11 s Qa), .int .i64 (fltL 11 s Qa), .int .i64 (fltC 11 s Qa)]]) (by simp [results, Tryz.results9, go_sem, c0, c1, c2, c3]) rfl ⟨rfl, ?_⟩
      exact bl_any5 (bl_any (bl_any (bl_any hb0 hb1) hb2) hb3) (Nat.le_refl _)
    case false =>
      simp only [Bool.false_eq_true, if_false] at hR
      clear kB k11 k14
      have HO := Lib.hid hok
      have HH := Lib.hid H1
      have HR0 := Lib.hid hR
      clear hok H1 hR
      go_enter Tryz.func9, Tryz.ntmps9
      go_upto_region 7 with (go_at_call 12; (with_reducible refine (kRw _).mono ?_); rintro en w1 ⟨⟨A, n, cc, rfl, hrows⟩, hb1⟩; have h1 := hF0.below hb1 (by simp))
      have hA2 : Aw [] w1 (w1.alloc (.cells #[.int .i64 0, .int .i64 0, .int .i64 0, .int .i64 0, .string s, .slice none 0 0, .bool false, .bool false, .bool false, .bool false, .int .i64 0] 77)) := (Aw.refl [] w1).alloc _
      have hrd : Ob (w1.alloc (.cells #[.int .i64 0, .int .i64 0, .int .i64 0, .int .i64 0, .string s, .slice none 0 0, .bool false, .bool false, .bool false, .bool false, .int .i64 0] 77)) w1.heap.size 0 0 0 0 s (.slice none 0 0) false false false 0 := Blk.new w1 _ _
      have hx1 : w.heap.size < w1.heap.size := Blk.lt h1
      have h2 := Blk.aw h1 hA2 (by simp)
      have hbW : Below w.heap.size w (w1.alloc (.cells #[.int .i64 0, .int .i64 0, .int .i64 0, .int .i64 0, .string s, .slice none 0 0, .bool false, .bool false, .bool false, .bool false, .int .i64 0] 77)) := bl_any (bl_any hb0 hb1) hA2.none_bel
      generalize w1.alloc (.cells #[.int .i64 0, .int .i64 0, .int .i64 0, .int .i64 0, .string s, .slice none 0 0, .bool false, .bool false, .bool false, .bool false, .int .i64 0] 77) = W0 at *
      generalize hr : w1.heap.size = r at *
      have hda : OA W0 W0 r 0 0 0 0 s (.slice none 0 0) [] false false false 0 := ⟨hrd, FamsAt.nil_, Aw.refl _ _, Blk.lt hrd⟩
      simp only [Bool.false_eq_true, if_false] at hrows
      obtain ⟨rows, hm, hr1, hr2⟩ := hrows
      have hrl := hr1.1
      have hml : rows.length = Q1.length := by rw [← hm]; simp
      have hr1' := hr1.aw hA2 (Nat.le_of_eq hr.symm) (by simp)
      have hrW := Blk.lt hrd
      have kA := oall_all r 0 0 0 0 s (.slice none 0 0) r n cc A s.data.toList rows W0 W0 hda (by omega) hr1' (fun X hX => ⟨(hr2 X hX).1.aw hA2 (Nat.le_of_eq hr.symm) (by simp), (hr2 X hX).2⟩) (fun X hX => HO.out X.row (by rw [← hm]; exact List.mem_map.2 ⟨X, hX, rfl⟩)) (by rw [hL]; omega) (Nat.le_of_lt hrW) (Nat.le_refl _) (by omega)
      rw [hm] at kA
      clear hr1 hr2 hr1' hrd HO hda kRw
      have hR := HR0.out
      clear HR0
      cases hal : allO Q1 ⟨[], false, false, false, 0⟩ with
      | error y =>
        rw [hal] at hR kA
        simp only at hR
        subst hR
        simp only [ReadOP, RowP] at kA ⊢
        clear hal HH
        go_upto_region 8 with (go_at_call 22; (with_reducible refine kA.mono ?_); rintro en w5 ⟨rfl, ⟨fv5, t1, t2, t3, N5, h5⟩, hA5⟩; unfold Obf at h5)
        have h3 := Blk.aw h2 hA5 (by simp; omega)
        obtain ⟨⟨r0, r1, r2, r3, _⟩, _⟩ := h5.facts
        have c0 := (Blk.cell h3 0).trans rfl
        have c1 := (Blk.cell h3 1).trans rfl
        have c2 := (Blk.cell h3 2).trans rfl
        have c3 := (Blk.cell h3 3).trans rfl
        have f0 := Blk.frozen h3 0
        have f1 := Blk.frozen h3 1
        have f2 := Blk.frozen h3 2
        have f3 := Blk.frozen h3 3
        have hbl := hbW.trans (hA5.bel_of (B := w.heap.size) (by simp; omega) hbW.size)
        go_region
        all_goals
          go_wp2_with fail
          refine bodyPost_ret (v := .tuple #[.slice none 0 0, .agg #[.int .i64 (y.1 : Int), .int .i64 (fltO y.1 s y.2), .int .i64 (fltL y.1 s y.2), .int .i64 (fltC y.1 s y.2)]]) (by simp [results, Tryz.results9, go_sem, c0, c1, c2, c3]) rfl ⟨rfl, ?_⟩
          exact bl_any5 hbl.drew (Nat.le_refl _)
      | ok q =>
        rw [hal] at hR kA
        simp only at hR
        have hdist := all_dist Q1 _ hal DistO.nil_
        have h20 := HH.out q.fams hR.symm
        subst hR
        simp only [RowP] at kA
        clear hal HH
        go_upto_region 9 with (go_at_call 22; (with_reducible refine kA.mono ?_); rintro en w5 ⟨rfl, fv, fs, hfq, hO5, hK5⟩)
        have hfl := hK5.len
        have hlq : fs.length = q.fams.length := by rw [← hfq]; simp
        have HG : Hid (∀ f ∈ q.fams, f.pts.length < 20 ∧ (∀ p ∈ f.pts, PntOk p) ∧ f.pts.Pairwise fun a b => cmpPntK a b ≠ 0) := Lib.hid (fun f hf => by
          refine ⟨h20 f hf, ?_⟩
          rw [← hfq] at hf
          obtain ⟨X, hX, rfl⟩ := List.mem_map.1 hf
          have hp := (hK5.fam X hX).2.2.2
          have hok : ∀ p ∈ X.fam.pts, PntOk p := fun p hp' => by
            obtain ⟨y, hy, rfl⟩ := List.mem_map.1 hp'
            exact hp y hy
          refine ⟨hok, (hdist.pts X.fam (by rw [← hfq]; exact List.mem_map.2 ⟨X, hX, rfl⟩)).imp_of_mem (fun {a b} ha hb hne e => hne ?_)⟩
          rw [cmpPnt_key _ _ (hok b hb).bm (hok a ha).bm, cmpPntK_cmp.swap a b, e]; rfl)
        have HN := Lib.hid hdist.names
        have HFQ := Lib.hid hfq
        obtain ⟨⟨_, _, _, _, _, u5, _⟩, _⟩ := hO5.rd.facts
        obtain ⟨fA, fc, rfl⟩ := hO5.fams.form
        generalize hn0 : fs.length = n0 at *
        have H0 : Hid (fs.map VFam.fam = (q.fams.take 0).map sortF ++ q.fams.drop 0) := Lib.hid (by simpa using hfq)
        have HLQ := Lib.hid hlq
        have HO5 := Lib.hid hO5
        clear h20 hdist hfq kA hK5 hlq
        generalize hgs : q.fams = gs at *
        have HGS := Lib.hid hgs
        clear hgs
        generalize q.t1 = t1 at *
        generalize q.t2 = t2 at *
        generalize q.t3 = t3 at *
        generalize q.pts = N at *
        clear hn0
        go_wp2_with fail
        clear u5 hO5
        go_loopw [41] (fun iv wr => ∃ (j : Nat) (fsj : List VFam), j ≤ n0 ∧ iv = .int .i64 j ∧ Hid (OA W0 wr r 0 0 0 0 s (.slice fA n0 fc) fsj t1 t2 t3 N) ∧ Hid (fsj.map VFam.fam = (gs.take j).map sortF ++ gs.drop j)) (fun i _ => n0 - (intOf i).toNat)
        case atStart => exact ⟨0, fs, by omega, rfl, HO5, H0⟩
        case round =>
          obtain ⟨j, fsj, hj, rfl, HO, HM⟩ := hrel
          clear HO5 H0 HFQ
          have hfl2 : fsj.length = n0 := by rw [step_len HM.out]; exact HLQ.out.symm
          by_cases hlt : j < n0
          case pos =>
            have hd : decide ((j : Int) < (n0 : Int)) = true := decide_eq_true (by omega)
            have hj0 : (0 : Int) ≤ j := by omega
            have hj1 : (j : Int) < n0 := by omega
            obtain ⟨X, hX⟩ : ∃ X, fsj[j]? = some X := ⟨fsj[j], List.getElem?_eq_getElem (by omega)⟩
            obtain ⟨g, fq, e1, hgb, hz1, hz2⟩ := HO.out.fams.at_ hX
            injection e1 with e1 e2 e3
            subst e1
            clear e2 e3 hz1 hz2
            obtain ⟨g20, gok, gne⟩ := HG.out X.fam (List.mem_of_getElem? (at_step HM.out hX))
            have hXm := List.mem_of_getElem? hX
            have hokX : ∀ y ∈ X.pts, PntOk y.pt := fun y hy => gok y.pt (List.mem_map.2 ⟨y, hy, rfl⟩)
            have kS := fun W (hW : OA W0 W r 0 0 0 0 s (.slice (some ⟨g, 0, none⟩) n0 fc) fsj t1 t2 t3 N) => famSort_any X W (by
              obtain ⟨A', c', e, hr⟩ := own_rws (f := pntCell) (fun _ => rfl) (hW.fams.pts X hXm) rfl
              injection e with e1 e2 e3
              subst e1
              exact hr) (fun y hy => ⟨own_labO (hW.fams.lab X hXm y hy) rfl, (hokX y hy).len⟩) hokX gne (by simpa [VFam.fam] using g20)
            have HX := Lib.hid hX
            have HFL2 := Lib.hid hfl2
            obtain ⟨y0, y1, y2, y3, y4⟩ := HO.out.fams.cells_ hX
            clear hX hfl2 g20 gok gne hokX hXm
            go_upto_region 12 with (fail)
            have hda2 := HO.out.call ((Aw.refl [] wr).alloc (.cells #[.string X.name, .int .i64 (X.kind : Int), .string X.unit, .string X.help, .slice X.A X.pts.length X.c] 68))
            have hcp := Blk.new wr 68 #[.string X.name, .int .i64 (X.kind : Int), .string X.unit, .string X.help, .slice X.A X.pts.length X.c]
            clear y0 y1 y2 y3 y4
            generalize wr.alloc (.cells #[.string X.name, .int .i64 (X.kind : Int), .string X.unit, .string X.help, .slice X.A X.pts.length X.c] 68) = W2 at *
            generalize wr.heap.size = cp at *
            obtain ⟨⟨_, _, _, _, _, u5, _⟩, _⟩ := hda2.rd.facts
            have n0' := (Blk.cell hcp 0).trans rfl; have n1' := (Blk.cell hcp 1).trans rfl; have n2' := (Blk.cell hcp 2).trans rfl; have n3' := (Blk.cell hcp 3).trans rfl; have n4' := (Blk.cell hcp 4).trans rfl
            have hrg : r ≠ g := by omega
            go_region_law (go_simp; go_at_call 23; (refine (kS _ hda2.drew).mono ?_); rintro en w7 ⟨vA, vc, qs, rfl, hFO⟩; have hda7 := hda2.drew.call (Aw.ofBelow hFO.b); obtain ⟨⟨_, _, _, _, _, t5, _⟩, _⟩ := hda7.rd.facts; have g0 := hda7.fams.fz (j * 5); have g1 := hda7.fams.fz (j * 5 + 1); have g2 := hda7.fams.fz (j * 5 + 2); have g3 := hda7.fams.fz (j * 5 + 3); have g4 := hda7.fams.fz (j * 5 + 4); obtain ⟨y0, y1, y2, y3, y4⟩ := hda7.fams.cells_ HX.out)
            all_goals
              have hF2 : FamsAt W2.drew W0.heap.size (.slice (some ⟨g, 0, none⟩) fsj.length fc) fsj := by rw [HFL2.out]; exact hda2.drew.fams
              have hT := FamsAt.turnP (i := j) (x := X) (w := W2.drew) (w' := w7) hF2 HX.out hFO.b hda2.drew.aw.size hFO.own
              rw [HFL2.out] at hT
              have hda8 : OA W0 ((((((w7.setCell ⟨g, j * 5, none⟩ (.string X.name)).setCell ⟨g, j * 5 + 1, none⟩ (.int .i64 (X.kind : Int))).setCell ⟨g, j * 5 + 2, none⟩ (.string X.unit)).setCell ⟨g, j * 5 + 3, none⟩ (.string X.help)).setCell ⟨g, j * 5 + 4, none⟩ (.slice vA qs.length vc))) r 0 0 0 0 s (.slice (some ⟨g, 0, none⟩) n0 fc) (fsj.set j (X.turnP qs vA vc)) t1 t2 t3 N := ⟨(((((hda7.rd.far (p := ⟨g, j * 5, none⟩) hrg (.string X.name)).far (p := ⟨g, j * 5 + 1, none⟩) hrg (.int .i64 (X.kind : Int))).far (p := ⟨g, j * 5 + 2, none⟩) hrg (.string X.unit)).far (p := ⟨g, j * 5 + 3, none⟩) hrg (.string X.help)).far (p := ⟨g, j * 5 + 4, none⟩) hrg (.slice vA qs.length vc)), hT, (((((hda7.aw.setCell (p := ⟨g, j * 5, none⟩) (.inr hgb) (.string X.name)).setCell (p := ⟨g, j * 5 + 1, none⟩) (.inr hgb) (.int .i64 (X.kind : Int))).setCell (p := ⟨g, j * 5 + 2, none⟩) (.inr hgb) (.string X.unit)).setCell (p := ⟨g, j * 5 + 3, none⟩) (.inr hgb) (.string X.help)).setCell (p := ⟨g, j * 5 + 4, none⟩) (.inr hgb) (.slice vA qs.length vc)), hda7.rl⟩
              have hst := (set_step HM.out HX.out (turnP_fam (A := vA) (c := vc) X hFO.pts)).1
              have HD8 := Lib.hid hda8
              have HST := Lib.hid hst
              clear hT hda7 hda8 hst g0 g1 g2 g3 g4 y0 y1 y2 y3 y4 t5 kS hF2
              generalize ((((((w7.setCell ⟨g, j * 5, none⟩ (.string X.name)).setCell ⟨g, j * 5 + 1, none⟩ (.int .i64 (X.kind : Int))).setCell ⟨g, j * 5 + 2, none⟩ (.string X.unit)).setCell ⟨g, j * 5 + 3, none⟩ (.string X.help)).setCell ⟨g, j * 5 + 4, none⟩ (.slice vA qs.length vc))) = w8 at *
              go_wp2_with fail
              exact ⟨⟨j + 1, _, by omega, rfl, HD8, HST⟩, by (simp only [intOf]; omega)⟩
          case neg =>
            have hd : decide ((j : Int) < (n0 : Int)) = false := decide_eq_false (by omega)
            obtain rfl : j = n0 := by omega
            have hM := HM.out
            rw [List.take_of_length_le (by have := HLQ.out; omega), List.drop_of_length_le (by have := HLQ.out; omega), List.append_nil] at hM
            have hO := HO.out
            have hnm : fsj.Pairwise fun f g => f.name.data.toList ≠ g.name.data.toList := by
              have h1 : (fsj.map VFam.fam).Pairwise fun f g => f.name.data.toList ≠ g.name.data.toList := by
                rw [hM, List.pairwise_map]; exact HN.out
              rw [List.pairwise_map] at h1
              exact h1
            have kT := famsSort_any W0.heap.size (.slice fA j fc) fsj wr hO.fams hnm (by omega)
            rw [hM] at kT
            obtain ⟨⟨_, _, _, _, _, u5, _⟩, _⟩ := hO.rd.facts
            have h3 := Blk.aw h2 hO.aw (by simp; omega)
            have HMM := Lib.hid hM
            clear hM hnm HM HO
            go_upto_region 15 with (go_at_call 24; (with_reducible refine kT.mono ?_); rintro en w9 ⟨rfl, fs9, hm9, hp9, hF9, hb9⟩)
            have hrl := hO.rl
            have hR9 : Ob w9 r 0 0 0 0 s (.slice fA j fc) t1 t2 t3 N := Blk.below hO.rd hb9 hrl
            have h4' := Blk.below h3 hb9 (by have := Blk.lt h2; omega)
            obtain ⟨⟨_, _, _, _, _, v5, _⟩, _⟩ := hR9.facts
            have c0 := (Blk.cell h4' 0).trans rfl; have c1 := (Blk.cell h4' 1).trans rfl; have c2 := (Blk.cell h4' 2).trans rfl; have c3 := (Blk.cell h4' 3).trans rfl; have f0 := Blk.frozen h4' 0; have f1 := Blk.frozen h4' 1; have f2 := Blk.frozen h4' 2; have f3 := Blk.frozen h4' 3
            have hbl := (hbW.trans (hO.aw.bel_of (B := w.heap.size) (by simp; omega) hbW.size)).trans (hb9.mono (by have := Blk.lt h2; omega))
            have hFz := (((hF9.far h4' (by decide) (by decide) (by decide) 0 (.int .i64 0)).far (Blk.set_ h4' 0 (.int .i64 0)) (by decide) (by decide) (by decide) 1 (.int .i64 0)).far (Blk.set_ (Blk.set_ h4' 0 (.int .i64 0)) 1 (.int .i64 0)) (by decide) (by decide) (by decide) 2 (.int .i64 0)).far (Blk.set_ (Blk.set_ (Blk.set_ h4' 0 (.int .i64 0)) 1 (.int .i64 0)) 2 (.int .i64 0)) (by decide) (by decide) (by decide) 3 (.int .i64 0)
            have hgl : (sortC cmpFamN (gs.map sortF)).length = j := by
              show (sortC cmpFam (gs.map sortF)).length = j
              rw [(cmpFam_cmp.sorted (gs.map sortF)).1.length_eq, List.length_map]; exact HLQ.out.symm
            have hPK : ∀ f ∈ fs9, ∀ y ∈ f.pts, PntOk y.pt := fun f hf y hy => by
              have e1 : f.fam ∈ gs.map sortF := by
                rw [← HMM.out]; exact List.mem_map.2 ⟨f, hp9.mem_iff.1 hf, rfl⟩
              obtain ⟨f0, hf0, e2⟩ := List.mem_map.1 e1
              have e3 : f.fam.pts = sortC cmpPntK f0.pts := by rw [← e2]; rfl
              have e4 : y.pt ∈ f.fam.pts := List.mem_map.2 ⟨y, hy, rfl⟩
              rw [e3, (cmpPntK_cmp.sorted f0.pts).1.mem_iff] at e4
              exact (HG.out f0 hf0).2.1 _ e4
            clear kT
            go_wp2_with fail
            refine bodyPost_ret (v := .tuple #[.slice fA j fc, .agg #[.int .i64 0, .int .i64 0, .int .i64 0, .int .i64 0]]) (by simp [results, Tryz.results9, go_sem, c0, c1, c2, c3]) rfl ⟨?_, bl_any5 hbl (Nat.le_refl _)⟩
            simp only [ReadOP]
            rw [HGS.out, hgl]
            exact ⟨fA, fc, W0.heap.size, fs9, rfl, hFz, hm9, hPK⟩
end
section
def kP1 : MPnt := ⟨[], 1, true, 0, 0, 3, 0, false, 0⟩
def kP2 : MPnt := ⟨[], 4, false, 0, 0, 15, 1, true, 2000⟩
def kF1 : MFam := ⟨mkS [97], 3, ⟨#[]⟩, ⟨#[]⟩, [kP1, kP2]⟩
def kF2 : MFam := ⟨mkS [98], 0, ⟨#[]⟩, ⟨#[]⟩, [⟨[], 0, false, 0, 0, 7, 0, false, 0⟩]⟩
theorem sortC_id {α : Type} {c : α → α → Int} (h : CmpL c) {l : List α} (hs : l.Pairwise fun x y => c x y < 0) : sortC c l = l := (h.sort_eq (List.Perm.refl _) hs).symm
theorem kro1 : readO [35, 32, 84, 89, 80, 69, 32, 97, 32, 104, 105, 115, 116, 111, 103, 114, 97, 109, 10, 97, 95, 98, 117, 99, 107, 101, 116, 123, 108, 101, 61, 34, 43, 73, 110, 102, 34, 125, 32, 51, 10, 97, 95, 115, 117, 109, 32, 49, 46, 53, 32, 50, 10, 98, 32, 55, 10, 35, 32, 69, 79, 70] = .ok [kF1, kF2] := by kernel_rfl
theorem krd1 : readR [35, 32, 84, 89, 80, 69, 32, 97, 32, 104, 105, 115, 116, 111, 103, 114, 97, 109, 10, 97, 95, 98, 117, 99, 107, 101, 116, 123, 108, 101, 61, 34, 43, 73, 110, 102, 34, 125, 32, 51, 10, 97, 95, 115, 117, 109, 32, 49, 46, 53, 32, 50, 10, 98, 32, 55, 10, 35, 32, 69, 79, 70] = .ok [kF1, kF2] := by
  unfold readR
  rw [kro1]
  have e1 : sortF kF1 = kF1 := by
    unfold sortF
    rw [show kF1.pts = [kP1, kP2] from rfl, sortC_id cmpPntK_cmp (by decide +kernel)]
    rfl
  have e2 : sortF kF2 = kF2 := by
    unfold sortF
    rw [show kF2.pts = [⟨[], 0, false, 0, 0, 7, 0, false, 0⟩] from rfl, sortC_id cmpPntK_cmp (by simp)]
    rfl
  simp only [List.map_cons, List.map_nil, e1, e2]
  exact congrArg Except.ok (sortC_id cmpFam_cmp (by decide +kernel))
theorem kro2 : readO [97, 32, 49, 10, 98, 32, 49, 10, 97, 123, 120, 61, 34, 49, 34, 125, 32, 49, 10, 35, 32, 69, 79, 70] = .error (13, 8) := by kernel_rfl
theorem kro3 : readO [97, 32, 49] = .error (11, 3) := by kernel_rfl
theorem kfl2 : fltO 13 ⟨#[97, 32, 49, 10, 98, 32, 49, 10, 97, 123, 120, 61, 34, 49, 34, 125, 32, 49, 10, 35, 32, 69, 79, 70]⟩ 8 = 8 ∧ fltL 13 ⟨#[97, 32, 49, 10, 98, 32, 49, 10, 97, 123, 120, 61, 34, 49, 34, 125, 32, 49, 10, 35, 32, 69, 79, 70]⟩ 8 = 3 := by decide +kernel
theorem kfl3 : fltO 11 ⟨#[97, 32, 49]⟩ 3 = 3 := by decide +kernel
theorem kbel : belZ [97] 2 [97, 95, 116, 111, 116, 97, 108] = some 0 := by decide +kernel
/-- Two families, of two points and of one. -/
theorem fams_two {w : World} {A : Option Addr} {c base : Nat} {fs : List VFam} (h : FamsAt w base (.slice A 2 c) fs) (hm : fs.map VFam.fam = [kF1, kF2]) : ∃ g pA p1 c1, A = some ⟨g, 0, none⟩ ∧ w.cell? ⟨g, 1, none⟩ = some (.int .i64 3) ∧ w.cell? ⟨g, 4, none⟩ = some (.slice (some ⟨p1, pA, none⟩) 2 c1) ∧ w.cell? ⟨g, 5, none⟩ = some (.string ⟨#[98]⟩) ∧ w.cell? ⟨p1, pA + 2, none⟩ = some (.bool true) ∧ w.cell? ⟨p1, pA + 9 + 8, none⟩ = some (.int .i64 2000) := by
  rcases fs with _ | ⟨x, _ | ⟨y, _ | ⟨z, tl⟩⟩⟩
  · simp at hm
  · simp at hm
  · simp only [List.map_cons, List.map_nil, List.cons.injEq, and_true] at hm
    obtain ⟨hx, hy⟩ := hm
    obtain ⟨g, fc, e, _, _, _⟩ := h.at_ (i := 0) (X := x) rfl
    injection e with e1 e2 e3
    subst e1
    obtain ⟨a0, a1, a2, a3, a4⟩ := h.cells_ (i := 0) (x := x) rfl
    obtain ⟨b0, b1, b2, b3, b4⟩ := h.cells_ (i := 1) (x := y) rfl
    have hk : x.kind = 3 := congrArg MFam.kind hx
    have hn : y.name = ⟨#[98]⟩ := congrArg MFam.name hy
    have hp : x.pts.map VPnt.pt = [kP1, kP2] := congrArg MFam.pts hx
    obtain ⟨A', c', e, hr⟩ := own_rws (f := pntCell) (fun _ => rfl) (h.pts x (by simp)) rfl
    injection e with e1 e2 e3
    subst e1
    generalize hps : x.pts = ps at *
    rcases ps with _ | ⟨p, _ | ⟨q, _ | ⟨z, tl⟩⟩⟩
    · simp at hp
    · simp at hp
    · simp only [List.map_cons, List.map_nil, List.cons.injEq, and_true] at hp
      obtain ⟨hp1, hp2⟩ := hp
      obtain ⟨pb, po, e, _, _⟩ := hr.2 (by simp)
      rw [e] at hr a4
      obtain ⟨_, _, d2, _⟩ := pnt_cells hr (i := 0) (x := p) rfl
      obtain ⟨_, _, _, _, _, _, _, _, d8⟩ := pnt_cells hr (i := 1) (x := q) rfl
      rw [hp1] at d2
      rw [hp2] at d8
      rw [hk] at a1
      rw [hn] at b0
      exact ⟨g, po, pb, x.c, rfl, by simpa using a1, by simpa using a4, by simpa using b0, by simpa [kP1] using d2, by simpa [kP2] using d8⟩
    · simp at hp
  · simp at hm
set_option maxRecDepth 100000 in
set_option maxHeartbeats 6400000 in
theorem known18_any (w : World) : Calls Tryz.prog 8 #[] w fun e w' => e = .returned (.bool true) ∧ Below w.heap.size w w' := by
  have kR1 : ∀ W, Calls Tryz.prog 9 #[.string ⟨#[35, 32, 84, 89, 80, 69, 32, 97, 32, 104, 105, 115, 116, 111, 103, 114, 97, 109, 10, 97, 95, 98, 117, 99, 107, 101, 116, 123, 108, 101, 61, 34, 43, 73, 110, 102, 34, 125, 32, 51, 10, 97, 95, 115, 117, 109, 32, 49, 46, 53, 32, 50, 10, 98, 32, 55, 10, 35, 32, 69, 79, 70]⟩] W fun en w' => (∃ A c base fs, en = .returned (.tuple #[.slice A 2 c, .agg #[.int .i64 0, .int .i64 0, .int .i64 0, .int .i64 0]]) ∧ FamsAt w' base (.slice A 2 c) fs ∧ fs.map VFam.fam = [kF1, kF2]) ∧ Below W.heap.size W w' := fun W => by
    have h := oread18_any ⟨#[35, 32, 84, 89, 80, 69, 32, 97, 32, 104, 105, 115, 116, 111, 103, 114, 97, 109, 10, 97, 95, 98, 117, 99, 107, 101, 116, 123, 108, 101, 61, 34, 43, 73, 110, 102, 34, 125, 32, 51, 10, 97, 95, 115, 117, 109, 32, 49, 46, 53, 32, 50, 10, 98, 32, 55, 10, 35, 32, 69, 79, 70]⟩ W (by decide) (by
      show ∀ gs, readO [35, 32, 84, 89, 80, 69, 32, 97, 32, 104, 105, 115, 116, 111, 103, 114, 97, 109, 10, 97, 95, 98, 117, 99, 107, 101, 116, 123, 108, 101, 61, 34, 43, 73, 110, 102, 34, 125, 32, 51, 10, 97, 95, 115, 117, 109, 32, 49, 46, 53, 32, 50, 10, 98, 32, 55, 10, 35, 32, 69, 79, 70] = .ok gs → _
      rw [kro1]; intro gs h; injection h with h; subst h
      intro g hg
      simp only [List.mem_cons, List.not_mem_nil, or_false] at hg
      rcases hg with rfl | rfl <;> decide)
    have e : readR (⟨#[35, 32, 84, 89, 80, 69, 32, 97, 32, 104, 105, 115, 116, 111, 103, 114, 97, 109, 10, 97, 95, 98, 117, 99, 107, 101, 116, 123, 108, 101, 61, 34, 43, 73, 110, 102, 34, 125, 32, 51, 10, 97, 95, 115, 117, 109, 32, 49, 46, 53, 32, 50, 10, 98, 32, 55, 10, 35, 32, 69, 79, 70]⟩ : ByteArray).data.toList = .ok [kF1, kF2] := krd1
    rw [e] at h
    refine h.mono fun en w' hh => ⟨?_, hh.2⟩
    obtain ⟨A, c, base, fs, h1, h2, h3, _⟩ := hh.1
    exact ⟨A, c, base, fs, h1, h2, h3⟩
  have kR2 : ∀ W, Calls Tryz.prog 9 #[.string ⟨#[97, 32, 49, 10, 98, 32, 49, 10, 97, 123, 120, 61, 34, 49, 34, 125, 32, 49, 10, 35, 32, 69, 79, 70]⟩] W fun en w' => (∃ k, en = .returned (.tuple #[.slice none 0 0, .agg #[.int .i64 13, .int .i64 8, .int .i64 3, .int .i64 k]])) ∧ Below W.heap.size W w' := fun W => by
    have h := oread18_any ⟨#[97, 32, 49, 10, 98, 32, 49, 10, 97, 123, 120, 61, 34, 49, 34, 125, 32, 49, 10, 35, 32, 69, 79, 70]⟩ W (by decide) (by
      show ∀ gs, readO [97, 32, 49, 10, 98, 32, 49, 10, 97, 123, 120, 61, 34, 49, 34, 125, 32, 49, 10, 35, 32, 69, 79, 70] = .ok gs → _
      rw [kro2]; intro gs h; cases h)
    have e : readR (⟨#[97, 32, 49, 10, 98, 32, 49, 10, 97, 123, 120, 61, 34, 49, 34, 125, 32, 49, 10, 35, 32, 69, 79, 70]⟩ : ByteArray).data.toList = .error (13, 8) := by unfold readR; rw [show readO (⟨#[97, 32, 49, 10, 98, 32, 49, 10, 97, 123, 120, 61, 34, 49, 34, 125, 32, 49, 10, 35, 32, 69, 79, 70]⟩ : ByteArray).data.toList = _ from kro2]
    rw [e] at h
    simp only [ReadOP] at h
    have e2 := kfl2
    refine h.mono fun en w' hh => ?_
    obtain ⟨h1, h2⟩ := hh
    simp only [Int.cast_ofNat_Int] at h1
    rw [e2.1, e2.2] at h1
    exact ⟨⟨_, h1⟩, h2⟩
  have kR3 : ∀ W, Calls Tryz.prog 9 #[.string ⟨#[97, 32, 49]⟩] W fun en w' => (∃ l k, en = .returned (.tuple #[.slice none 0 0, .agg #[.int .i64 11, .int .i64 3, .int .i64 l, .int .i64 k]])) ∧ Below W.heap.size W w' := fun W => by
    have h := oread18_any ⟨#[97, 32, 49]⟩ W (by decide) (by
      show ∀ gs, readO [97, 32, 49] = .ok gs → _
      rw [kro3]; intro gs h; cases h)
    have e : readR (⟨#[97, 32, 49]⟩ : ByteArray).data.toList = .error (11, 3) := by unfold readR; rw [show readO (⟨#[97, 32, 49]⟩ : ByteArray).data.toList = _ from kro3]
    rw [e] at h
    simp only [ReadOP] at h
    have e2 := kfl3
    refine h.mono fun en w' hh => ?_
    obtain ⟨h1, h2⟩ := hh
    simp only [Int.cast_ofNat_Int] at h1
    rw [e2] at h1
    exact ⟨⟨_, _, h1⟩, h2⟩
  have kB : ∀ W, Calls Tryz.prog 15 #[.agg #[.string ⟨#[97]⟩, .int .i64 2, .string ⟨#[]⟩, .string ⟨#[]⟩], .string ⟨#[97, 95, 116, 111, 116, 97, 108]⟩] W fun e w' => e = .returned (.tuple #[.int .i64 0, .bool true]) ∧ Below W.heap.size W w' := fun W => by
    have h := belongs_any ⟨#[97]⟩ ⟨#[]⟩ ⟨#[]⟩ 2 ⟨#[97, 95, 116, 111, 116, 97, 108]⟩ W (by decide)
    have e : belZ (⟨#[97]⟩ : ByteArray).data.toList 2 (⟨#[97, 95, 116, 111, 116, 97, 108]⟩ : ByteArray).data.toList = some 0 := kbel
    rw [e] at h
    exact h
  have ef := fun a0 a1 a2 a3 b0 b1 b2 b3 w => eqFault a0 a1 a2 a3 b0 b1 b2 b3 w
  go_enter Tryz.func8, Tryz.ntmps8
  go_upto_region 2 with (go_at_call 9; (with_reducible refine (kR1 _).mono ?_); rintro en w1 ⟨⟨A1, c1, base1, fs1, rfl, hF, hm⟩, hb1⟩)
  have z1 : Blk (w1.alloc (.cells #[.int .i64 0, .int .i64 0, .int .i64 0, .int .i64 0] 31)) w1.heap.size 31 #[.int .i64 0, .int .i64 0, .int .i64 0, .int .i64 0] := Blk.new w1 _ _
  have hW1 := bl_alloc hb1 (.cells #[.int .i64 0, .int .i64 0, .int .i64 0, .int .i64 0] 31)
  have hF1 := hF.alloc (.cells #[.int .i64 0, .int .i64 0, .int .i64 0, .int .i64 0] 31)
  generalize hX1 : w1.alloc (.cells #[.int .i64 0, .int .i64 0, .int .i64 0, .int .i64 0] 31) = W1 at *
  clear hX1
  go_upto_region 3 with (go_at_call 9; (with_reducible refine (kR2 _).mono ?_); rintro en w2 ⟨⟨k2, rfl⟩, hb2⟩)
  have z2 : Blk (w2.alloc (.cells #[.int .i64 13, .int .i64 8, .int .i64 3, .int .i64 k2] 31)) w2.heap.size 31 #[.int .i64 13, .int .i64 8, .int .i64 3, .int .i64 k2] := Blk.new w2 _ _
  have hW2 := bl_alloc (bl_any hW1 hb2) (.cells #[.int .i64 13, .int .i64 8, .int .i64 3, .int .i64 k2] 31)
  have hF2 := (hF1.bel hb2).alloc (.cells #[.int .i64 13, .int .i64 8, .int .i64 3, .int .i64 k2] 31)
  have z1b := (z1.below hb2 (Blk.lt z1)).alloc (.cells #[.int .i64 13, .int .i64 8, .int .i64 3, .int .i64 k2] 31)
  generalize hX2 : w2.alloc (.cells #[.int .i64 13, .int .i64 8, .int .i64 3, .int .i64 k2] 31) = W2 at *
  clear hX2
  go_upto_region 4 with (go_at_call 9; (with_reducible refine (kR3 _).mono ?_); rintro en w3 ⟨⟨l3, k3, rfl⟩, hb3⟩)
  have z3 : Blk (w3.alloc (.cells #[.int .i64 11, .int .i64 3, .int .i64 l3, .int .i64 k3] 31)) w3.heap.size 31 #[.int .i64 11, .int .i64 3, .int .i64 l3, .int .i64 k3] := Blk.new w3 _ _
  have hW3 := bl_alloc (bl_any hW2 hb3) (.cells #[.int .i64 11, .int .i64 3, .int .i64 l3, .int .i64 k3] 31)
  have hF3 := (hF2.bel hb3).alloc (.cells #[.int .i64 11, .int .i64 3, .int .i64 l3, .int .i64 k3] 31)
  have z1c := (z1b.below hb3 (Blk.lt z1b)).alloc (.cells #[.int .i64 11, .int .i64 3, .int .i64 l3, .int .i64 k3] 31)
  have z2c := (z2.below hb3 (Blk.lt z2)).alloc (.cells #[.int .i64 11, .int .i64 3, .int .i64 l3, .int .i64 k3] 31)
  generalize hX3 : w3.alloc (.cells #[.int .i64 11, .int .i64 3, .int .i64 l3, .int .i64 k3] 31) = W3 at *
  clear hX3
  go_upto_region 5 with (go_at_call 15; (with_reducible refine (kB _).mono ?_); rintro en w4 ⟨rfl, hb4⟩)
  have hW4 := bl_any hW3 hb4
  obtain ⟨g, po, pb, cc, rfl, y1, y4, y5, d2, d8⟩ := fams_two (hF3.bel hb4) hm
  have z1d := z1c.below hb4 (Blk.lt z1c)
  have z2d := z2c.below hb4 (Blk.lt z2c)
  have z3d := z3.below hb4 (Blk.lt z3)
  clear hF hF1 hF2 hF3 hm z1 z1b z1c z2 z2c z3 hb1 hb2 hb3 hb4 hW1 hW2 hW3 kR1 kR2 kR3 kB
  have c10 := (Blk.cell z1d 0).trans rfl
  have c11 := (Blk.cell z1d 1).trans rfl
  have c12 := (Blk.cell z1d 2).trans rfl
  have c13 := (Blk.cell z1d 3).trans rfl
  have c20 := (Blk.cell z2d 0).trans rfl
  have c21 := (Blk.cell z2d 1).trans rfl
  have c22 := (Blk.cell z2d 2).trans rfl
  have c30 := (Blk.cell z3d 0).trans rfl
  have c31 := (Blk.cell z3d 1).trans rfl
  go_wp2_with fail
  go_ret
  exact ⟨rfl, hW4⟩
end
section
def eofS : ByteArray := ⟨#[35, 32, 69, 79, 70]⟩
def rowsRB : List ByteArray := [⟨#[97, 32, 57, 50, 50, 51, 51, 55, 50, 48, 51, 54, 56, 53, 52, 55, 55, 53, 56, 48, 56, 10]⟩, ⟨#[97, 32, 49, 32, 49, 49, 50, 53, 56, 57, 57, 57, 48, 54, 56, 52, 50, 46, 54, 50, 53, 10]⟩, ⟨#[35, 32, 84, 89, 80, 69, 32, 97, 32, 104, 105, 115, 116, 111, 103, 114, 97, 109, 10, 97, 95, 98, 117, 99, 107, 101, 116, 123, 108, 101, 61, 34, 120, 34, 125, 32, 49, 10]⟩, ⟨#[35, 32, 84, 89, 80, 69, 32, 97, 32, 104, 105, 115, 116, 111, 103, 114, 97, 109, 10, 97, 95, 98, 117, 99, 107, 101, 116, 32, 49, 10]⟩, ⟨#[35, 32, 84, 89, 80, 69, 32, 97, 32, 115, 117, 109, 109, 97, 114, 121, 10, 97, 123, 113, 117, 97, 110, 116, 105, 108, 101, 61, 34, 49, 46, 49, 34, 125, 32, 49, 10]⟩, ⟨#[35, 32, 84, 89, 80, 69, 32, 97, 32, 99, 111, 117, 110, 116, 101, 114, 10, 97, 95, 116, 111, 116, 97, 108, 32, 45, 49, 10]⟩, ⟨#[35, 32, 84, 89, 80, 69, 32, 97, 32, 115, 117, 109, 109, 97, 114, 121, 10, 97, 95, 99, 111, 117, 110, 116, 32, 45, 49, 10]⟩, ⟨#[97, 32, 49, 32, 48, 46, 48, 48, 48, 49, 10]⟩, ⟨#[35, 32, 84, 89, 80, 69, 32, 97, 32, 104, 105, 115, 116, 111, 103, 114, 97, 109, 10, 97, 95, 98, 117, 99, 107, 101, 116, 123, 108, 101, 61, 34, 57, 50, 50, 51, 51, 55, 50, 48, 51, 54, 56, 53, 52, 55, 55, 53, 56, 48, 56, 34, 125, 32, 49, 10]⟩, ⟨#[35, 32, 84, 89, 80, 69, 32, 97, 32, 115, 117, 109, 109, 97, 114, 121, 10, 97, 123, 113, 117, 97, 110, 116, 105, 108, 101, 61, 34, 43, 73, 110, 102, 34, 125, 32, 49, 10]⟩]
def codesRB : List Nat := [12, 12, 13, 13, 12, 12, 12, 12, 12, 13]
def offsRB : List Nat := [2, 4, 32, 19, 29, 25, 25, 4, 32, 29]
theorem errB_eq {e : Except OErr (List MFam)} {c o : Nat} (h : errB e c o = true) : e = .error (c, o) := by
  cases e with
  | error x => simp only [errB, Bool.and_eq_true, beq_iff_eq] at h; obtain ⟨h1, h2⟩ := h; subst h1 h2; rfl
  | ok l => cases h
theorem rngB_table : ((List.range 10).all fun k => errB (readO (rowsRB.getD k ⟨#[]⟩ ++ eofS).data.toList) (codesRB.getD k 0) (offsRB.getD k 0)) = true := by decide +kernel
theorem rngB_size : ((List.range 10).all fun k => decide ((rowsRB.getD k ⟨#[]⟩).size ≤ 100)) = true := by decide +kernel
theorem rngB_flt : ((List.range 10).all fun k => decide (fltO (codesRB.getD k 0 : Nat) (rowsRB.getD k ⟨#[]⟩ ++ eofS) (offsRB.getD k 0 : Nat) = fltO (codesRB.getD k 0 : Nat) (rowsRB.getD k ⟨#[]⟩) (offsRB.getD k 0 : Nat)) && (decide (fltL (codesRB.getD k 0 : Nat) (rowsRB.getD k ⟨#[]⟩ ++ eofS) (offsRB.getD k 0 : Nat) = fltL (codesRB.getD k 0 : Nat) (rowsRB.getD k ⟨#[]⟩) (offsRB.getD k 0 : Nat)) && decide (fltC (codesRB.getD k 0 : Nat) (rowsRB.getD k ⟨#[]⟩ ++ eofS) (offsRB.getD k 0 : Nat) = fltC (codesRB.getD k 0 : Nat) (rowsRB.getD k ⟨#[]⟩) (offsRB.getD k 0 : Nat)))) = true := by decide +kernel
theorem range_at {p : Nat → Bool} {n k : Nat} (h : (List.range n).all p = true) (hk : k < n) : p k = true := List.all_eq_true.1 h k (List.mem_range.2 hk)
theorem rngB_at {k : Nat} (hk : k < 10) : readO (rowsRB.getD k ⟨#[]⟩ ++ eofS).data.toList = .error (codesRB.getD k 0, offsRB.getD k 0) := by
  have h := range_at rngB_table hk
  exact errB_eq h
theorem rngB_f {k : Nat} (hk : k < 10) : fltO (codesRB.getD k 0 : Nat) (rowsRB.getD k ⟨#[]⟩ ++ eofS) (offsRB.getD k 0 : Nat) = fltO (codesRB.getD k 0 : Nat) (rowsRB.getD k ⟨#[]⟩) (offsRB.getD k 0 : Nat) ∧ fltL (codesRB.getD k 0 : Nat) (rowsRB.getD k ⟨#[]⟩ ++ eofS) (offsRB.getD k 0 : Nat) = fltL (codesRB.getD k 0 : Nat) (rowsRB.getD k ⟨#[]⟩) (offsRB.getD k 0 : Nat) ∧ fltC (codesRB.getD k 0 : Nat) (rowsRB.getD k ⟨#[]⟩ ++ eofS) (offsRB.getD k 0 : Nat) = fltC (codesRB.getD k 0 : Nat) (rowsRB.getD k ⟨#[]⟩) (offsRB.getD k 0 : Nat) := by
  have h := range_at rngB_flt hk
  simp only [Bool.and_eq_true, decide_eq_true_eq] at h
  exact h
def rowsRC : Array Value := (rowsRB.map Value.string).toArray
def codesRC : Array Value := (codesRB.map fun (c : Nat) => Value.int .i64 (c : Int)).toArray
def offsRC : Array Value := (offsRB.map fun (c : Nat) => Value.int .i64 (c : Int)).toArray
theorem rowsRC_at {k : Nat} (h : k < 10) : rowsRC[k]? = some (.string (rowsRB.getD k ⟨#[]⟩)) := by
  have hl : rowsRB.length = 10 := rfl
  unfold rowsRC
  rw [List.getElem?_toArray, List.getElem?_map, List.getD_eq_getElem?_getD, List.getElem?_eq_getElem (by omega)]; rfl
theorem codesRC_at {k : Nat} (h : k < 10) : codesRC[k]? = some (.int .i64 (codesRB.getD k 0 : Nat)) := by
  have hl : codesRB.length = 10 := rfl
  unfold codesRC
  rw [List.getElem?_toArray, List.getElem?_map, List.getD_eq_getElem?_getD, List.getElem?_eq_getElem (by omega)]; rfl
theorem offsRC_at {k : Nat} (h : k < 10) : offsRC[k]? = some (.int .i64 (offsRB.getD k 0 : Nat)) := by
  have hl : offsRB.length = 10 := rfl
  unfold offsRC
  rw [List.getElem?_toArray, List.getElem?_map, List.getD_eq_getElem?_getD, List.getElem?_eq_getElem (by omega)]; rfl
theorem rowsRC_lit : rowsRC = #[.string (⟨#[97, 32, 57, 50, 50, 51, 51, 55, 50, 48, 51, 54, 56, 53, 52, 55, 55, 53, 56, 48, 56, 10]⟩), .string (⟨#[97, 32, 49, 32, 49, 49, 50, 53, 56, 57, 57, 57, 48, 54, 56, 52, 50, 46, 54, 50, 53, 10]⟩), .string (⟨#[35, 32, 84, 89, 80, 69, 32, 97, 32, 104, 105, 115, 116, 111, 103, 114, 97, 109, 10, 97, 95, 98, 117, 99, 107, 101, 116, 123, 108, 101, 61, 34, 120, 34, 125, 32, 49, 10]⟩), .string (⟨#[35, 32, 84, 89, 80, 69, 32, 97, 32, 104, 105, 115, 116, 111, 103, 114, 97, 109, 10, 97, 95, 98, 117, 99, 107, 101, 116, 32, 49, 10]⟩), .string (⟨#[35, 32, 84, 89, 80, 69, 32, 97, 32, 115, 117, 109, 109, 97, 114, 121, 10, 97, 123, 113, 117, 97, 110, 116, 105, 108, 101, 61, 34, 49, 46, 49, 34, 125, 32, 49, 10]⟩), .string (⟨#[35, 32, 84, 89, 80, 69, 32, 97, 32, 99, 111, 117, 110, 116, 101, 114, 10, 97, 95, 116, 111, 116, 97, 108, 32, 45, 49, 10]⟩), .string (⟨#[35, 32, 84, 89, 80, 69, 32, 97, 32, 115, 117, 109, 109, 97, 114, 121, 10, 97, 95, 99, 111, 117, 110, 116, 32, 45, 49, 10]⟩), .string (⟨#[97, 32, 49, 32, 48, 46, 48, 48, 48, 49, 10]⟩), .string (⟨#[35, 32, 84, 89, 80, 69, 32, 97, 32, 104, 105, 115, 116, 111, 103, 114, 97, 109, 10, 97, 95, 98, 117, 99, 107, 101, 116, 123, 108, 101, 61, 34, 57, 50, 50, 51, 51, 55, 50, 48, 51, 54, 56, 53, 52, 55, 55, 53, 56, 48, 56, 34, 125, 32, 49, 10]⟩), .string (⟨#[35, 32, 84, 89, 80, 69, 32, 97, 32, 115, 117, 109, 109, 97, 114, 121, 10, 97, 123, 113, 117, 97, 110, 116, 105, 108, 101, 61, 34, 43, 73, 110, 102, 34, 125, 32, 49, 10]⟩)] := rfl
theorem codesRC_lit : codesRC = #[.int .i64 12, .int .i64 12, .int .i64 13, .int .i64 13, .int .i64 12, .int .i64 12, .int .i64 12, .int .i64 12, .int .i64 12, .int .i64 13] := rfl
theorem offsRC_lit : offsRC = #[.int .i64 2, .int .i64 4, .int .i64 32, .int .i64 19, .int .i64 29, .int .i64 25, .int .i64 25, .int .i64 4, .int .i64 32, .int .i64 29] := rfl
/-! ### OpenTwice -/
def aheadS : ByteArray := ⟨#[122, 122, 32, 49, 10, 35, 32, 72, 69, 76, 80, 32, 122, 32, 10]⟩
def rowsTB : List ByteArray := [⟨#[97, 32, 49, 10]⟩, ⟨#[35, 32, 84, 89, 80, 69, 32, 97, 32, 103, 97, 117, 103, 101, 10]⟩, ⟨#[35, 32, 84, 89, 80, 69, 32, 97, 32, 103, 97, 117, 103, 101, 10, 35, 32, 84, 89, 80, 69, 32, 97, 32, 103, 97, 117, 103, 101, 10]⟩, ⟨#[97, 32, 49, 10, 98, 32, 49, 10, 97, 123, 120, 61, 34, 34, 125, 32, 49, 10]⟩, ⟨#[97, 32, 49, 10, 97, 32, 50, 10]⟩, ⟨#[97, 32, 49, 32, 50, 10, 97, 32, 49, 32, 50, 46, 48, 10]⟩, ⟨#[35, 32, 72, 69, 76, 80, 32, 97, 32, 120, 10, 35, 32, 72, 69, 76, 80, 32, 97, 32, 120, 10]⟩, ⟨#[35, 32, 84, 89, 80, 69, 32, 97, 32, 99, 111, 117, 110, 116, 101, 114, 10, 97, 32, 49, 10]⟩, ⟨#[35, 32, 84, 89, 80, 69, 32, 97, 32, 103, 97, 117, 103, 101, 10, 98, 32, 49, 10, 35, 32, 72, 69, 76, 80, 32, 97, 32, 120, 10]⟩, ⟨#[97, 32, 49, 10, 35, 32, 85, 78, 73, 84, 32, 97, 32, 97, 10]⟩]
def offsTB : List Int := [-1, -1, 22, 8, 4, 6, 18, 17, 26, 11]
theorem okB_eq {e : Except OErr (List MFam)} (h : okB e = true) : ∃ l, e = .ok l ∧ 1 ≤ l.length ∧ ∀ f ∈ l, f.pts.length ≤ 1 := by
  cases e with
  | error x => cases h
  | ok l =>
    simp only [okB, Bool.and_eq_true, decide_eq_true_eq, List.all_eq_true] at h
    exact ⟨l, rfl, h.1, h.2.2⟩
def preS (b : Bool) : ByteArray := if b then aheadS else ⟨#[]⟩
theorem twB_table : (([false, true]).all fun b => (List.range 10).all fun k => if offsTB.getD k 0 < 0 then okB (readO (preS b ++ rowsTB.getD k ⟨#[]⟩ ++ eofS).data.toList) else errB (readO (preS b ++ rowsTB.getD k ⟨#[]⟩ ++ eofS).data.toList) 13 ((preS b).size + (offsTB.getD k 0).toNat)) = true := by decide +kernel
theorem twB_size : ((List.range 10).all fun k => decide ((rowsTB.getD k ⟨#[]⟩).size ≤ 100) && (decide (offsTB.getD k 0 ≤ 30) && decide (-1 ≤ offsTB.getD k 0))) = true := by decide +kernel
theorem twB_flt : (([false, true]).all fun b => (List.range 10).all fun k => if offsTB.getD k 0 < 0 then true else decide (fltO 13 (preS b ++ rowsTB.getD k ⟨#[]⟩ ++ eofS) ((preS b).size + (offsTB.getD k 0).toNat : Nat) = fltO 13 (preS b ++ rowsTB.getD k ⟨#[]⟩) ((preS b).size + (offsTB.getD k 0).toNat : Nat)) && (decide (fltL 13 (preS b ++ rowsTB.getD k ⟨#[]⟩ ++ eofS) ((preS b).size + (offsTB.getD k 0).toNat : Nat) = fltL 13 (preS b ++ rowsTB.getD k ⟨#[]⟩) ((preS b).size + (offsTB.getD k 0).toNat : Nat)) && decide (fltC 13 (preS b ++ rowsTB.getD k ⟨#[]⟩ ++ eofS) ((preS b).size + (offsTB.getD k 0).toNat : Nat) = fltC 13 (preS b ++ rowsTB.getD k ⟨#[]⟩) ((preS b).size + (offsTB.getD k 0).toNat : Nat)))) = true := by decide +kernel
theorem twB_both {p : Bool → Bool} (h : (([false, true]).all p) = true) (b : Bool) : p b = true := by
  simp only [List.all_cons, List.all_nil, Bool.and_true, Bool.and_eq_true] at h
  cases b
  · exact h.1
  · exact h.2
theorem twB_ok (b : Bool) {k : Nat} (hk : k < 10) (hn : offsTB.getD k 0 < 0) : ∃ l, readO (preS b ++ rowsTB.getD k ⟨#[]⟩ ++ eofS).data.toList = .ok l ∧ 1 ≤ l.length ∧ ∀ f ∈ l, f.pts.length ≤ 1 := by
  have h := range_at (twB_both twB_table b) hk
  rw [if_pos hn] at h
  exact okB_eq h
theorem twB_err (b : Bool) {k : Nat} (hk : k < 10) (hn : ¬ offsTB.getD k 0 < 0) : readO (preS b ++ rowsTB.getD k ⟨#[]⟩ ++ eofS).data.toList = .error (13, (preS b).size + (offsTB.getD k 0).toNat) := by
  have h := range_at (twB_both twB_table b) hk
  rw [if_neg hn] at h
  exact errB_eq h
theorem twB_f (b : Bool) {k : Nat} (hk : k < 10) (hn : ¬ offsTB.getD k 0 < 0) : fltO 13 (preS b ++ rowsTB.getD k ⟨#[]⟩ ++ eofS) ((preS b).size + (offsTB.getD k 0).toNat : Nat) = fltO 13 (preS b ++ rowsTB.getD k ⟨#[]⟩) ((preS b).size + (offsTB.getD k 0).toNat : Nat) ∧ fltL 13 (preS b ++ rowsTB.getD k ⟨#[]⟩ ++ eofS) ((preS b).size + (offsTB.getD k 0).toNat : Nat) = fltL 13 (preS b ++ rowsTB.getD k ⟨#[]⟩) ((preS b).size + (offsTB.getD k 0).toNat : Nat) ∧ fltC 13 (preS b ++ rowsTB.getD k ⟨#[]⟩ ++ eofS) ((preS b).size + (offsTB.getD k 0).toNat : Nat) = fltC 13 (preS b ++ rowsTB.getD k ⟨#[]⟩) ((preS b).size + (offsTB.getD k 0).toNat : Nat) := by
  have h := range_at (twB_both twB_flt b) hk
  rw [if_neg hn] at h
  simp only [Bool.and_eq_true, decide_eq_true_eq] at h
  exact h
def rowsTC : Array Value := (rowsTB.map Value.string).toArray
def offsTC : Array Value := (offsTB.map fun (c : Int) => Value.int .i64 c).toArray
theorem rowsTC_at {k : Nat} (h : k < 10) : rowsTC[k]? = some (.string (rowsTB.getD k ⟨#[]⟩)) := by
  have hl : rowsTB.length = 10 := rfl
  unfold rowsTC
  rw [List.getElem?_toArray, List.getElem?_map, List.getD_eq_getElem?_getD, List.getElem?_eq_getElem (by omega)]; rfl
theorem offsTC_at {k : Nat} (h : k < 10) : offsTC[k]? = some (.int .i64 (offsTB.getD k 0)) := by
  have hl : offsTB.length = 10 := rfl
  unfold offsTC
  rw [List.getElem?_toArray, List.getElem?_map, List.getD_eq_getElem?_getD, List.getElem?_eq_getElem (by omega)]; rfl
theorem rowsTC_lit : rowsTC = #[.string (⟨#[97, 32, 49, 10]⟩), .string (⟨#[35, 32, 84, 89, 80, 69, 32, 97, 32, 103, 97, 117, 103, 101, 10]⟩), .string (⟨#[35, 32, 84, 89, 80, 69, 32, 97, 32, 103, 97, 117, 103, 101, 10, 35, 32, 84, 89, 80, 69, 32, 97, 32, 103, 97, 117, 103, 101, 10]⟩), .string (⟨#[97, 32, 49, 10, 98, 32, 49, 10, 97, 123, 120, 61, 34, 34, 125, 32, 49, 10]⟩), .string (⟨#[97, 32, 49, 10, 97, 32, 50, 10]⟩), .string (⟨#[97, 32, 49, 32, 50, 10, 97, 32, 49, 32, 50, 46, 48, 10]⟩), .string (⟨#[35, 32, 72, 69, 76, 80, 32, 97, 32, 120, 10, 35, 32, 72, 69, 76, 80, 32, 97, 32, 120, 10]⟩), .string (⟨#[35, 32, 84, 89, 80, 69, 32, 97, 32, 99, 111, 117, 110, 116, 101, 114, 10, 97, 32, 49, 10]⟩), .string (⟨#[35, 32, 84, 89, 80, 69, 32, 97, 32, 103, 97, 117, 103, 101, 10, 98, 32, 49, 10, 35, 32, 72, 69, 76, 80, 32, 97, 32, 120, 10]⟩), .string (⟨#[97, 32, 49, 10, 35, 32, 85, 78, 73, 84, 32, 97, 32, 97, 10]⟩)] := rfl
theorem offsTC_lit : offsTC = #[.int .i64 (-1), .int .i64 (-1), .int .i64 22, .int .i64 8, .int .i64 4, .int .i64 6, .int .i64 18, .int .i64 17, .int .i64 26, .int .i64 11] := rfl
end
section
/-- What stands while a fault is held against another one. -/
structure OnR (w0 w : World) (f b k : Nat) (c o l q : Int) (S : ByteArray) (of_ : Nat) : Prop where
  fb : Blk w f 31 #[.int .i64 c, .int .i64 o, .int .i64 l, .int .i64 q]
  ab : Blk w b 9 rowsRC
  cb : Blk w (b + 1) 24 codesRC
  ob : Blk w (b + 2) 3 offsRC
  ak : rowsRC[k]? = some (.string S)
  ck : codesRC[k]? = some (.int .i64 c)
  ok : offsRC[k]? = some (.int .i64 (of_ : Int))
  bl : Below w0.heap.size w0 w
theorem OnR.below {w0 w w' : World} {f b k : Nat} {c o l q : Int} {S : ByteArray} {of_ : Nat} (h : OnR w0 w f b k c o l q S of_) (a : Below w.heap.size w w') : OnR w0 w' f b k c o l q S of_ :=
  ⟨h.fb.below a (Blk.lt h.fb), h.ab.below a (Blk.lt h.ab), h.cb.below a (Blk.lt h.cb), h.ob.below a (Blk.lt h.ob), h.ak, h.ck, h.ok, bl_any h.bl a⟩
theorem OnR.drew {w0 w : World} {f b k : Nat} {c o l q : Int} {S : ByteArray} {of_ : Nat} (h : OnR w0 w f b k c o l q S of_) : OnR w0 w.drew f b k c o l q S of_ := ⟨h.fb, h.ab, h.cb, h.ob, h.ak, h.ck, h.ok, h.bl.drew⟩
theorem OnR.fs {w0 w : World} {f b k : Nat} {c o l q : Int} {S : ByteArray} {of_ : Nat} (h : OnR w0 w f b k c o l q S of_) : (w.cell? ⟨f, 0, none⟩ = some (.int .i64 c) ∧ w.cell? ⟨f, 1, none⟩ = some (.int .i64 o) ∧ w.cell? ⟨f, 2, none⟩ = some (.int .i64 l) ∧ w.cell? ⟨f, 3, none⟩ = some (.int .i64 q) ∧ w.cell? ⟨b, k, none⟩ = some (.string S) ∧ w.cell? ⟨b + 1, k, none⟩ = some (.int .i64 c) ∧ w.cell? ⟨b + 2, k, none⟩ = some (.int .i64 (of_ : Int))) ∧ OnR w0 w f b k c o l q S of_ :=
  ⟨⟨(Blk.cell h.fb 0).trans rfl, (Blk.cell h.fb 1).trans rfl, (Blk.cell h.fb 2).trans rfl, (Blk.cell h.fb 3).trans rfl, (Blk.cell h.ab k).trans h.ak, (Blk.cell h.cb k).trans h.ck, (Blk.cell h.ob k).trans h.ok⟩, h⟩
set_option maxRecDepth 100000 in
set_option maxHeartbeats 6400000 in
theorem ranges18_any (h : Int) (w : World) (h0 : 0 ≤ h) (h1 : h ≤ 255) :
    Calls Tryz.prog 3 #[.int .u8 h] w fun e w' => e = .returned (.bool true) ∧ Below w.heap.size w w' := by
  have kK := known18_any w
  go_enter Tryz.func3, Tryz.ntmps3
  go_upto_region 6 with (go_at_call 8; (with_reducible refine kK.mono ?_); rintro en w1 ⟨rfl, hb1⟩)
  have hA0 : Blk (w1.alloc (.cells #[.string (⟨#[97, 32, 57, 50, 50, 51, 51, 55, 50, 48, 51, 54, 56, 53, 52, 55, 55, 53, 56, 48, 56, 10]⟩), .string (⟨#[97, 32, 49, 32, 49, 49, 50, 53, 56, 57, 57, 57, 48, 54, 56, 52, 50, 46, 54, 50, 53, 10]⟩), .string (⟨#[35, 32, 84, 89, 80, 69, 32, 97, 32, 104, 105, 115, 116, 111, 103, 114, 97, 109, 10, 97, 95, 98, 117, 99, 107, 101, 116, 123, 108, 101, 61, 34, 120, 34, 125, 32, 49, 10]⟩), .string (⟨#[35, 32, 84, 89, 80, 69, 32, 97, 32, 104, 105, 115, 116, 111, 103, 114, 97, 109, 10, 97, 95, 98, 117, 99, 107, 101, 116, 32, 49, 10]⟩), .string (⟨#[35, 32, 84, 89, 80, 69, 32, 97, 32, 115, 117, 109, 109, 97, 114, 121, 10, 97, 123, 113, 117, 97, 110, 116, 105, 108, 101, 61, 34, 49, 46, 49, 34, 125, 32, 49, 10]⟩), .string (⟨#[35, 32, 84, 89, 80, 69, 32, 97, 32, 99, 111, 117, 110, 116, 101, 114, 10, 97, 95, 116, 111, 116, 97, 108, 32, 45, 49, 10]⟩), .string (⟨#[35, 32, 84, 89, 80, 69, 32, 97, 32, 115, 117, 109, 109, 97, 114, 121, 10, 97, 95, 99, 111, 117, 110, 116, 32, 45, 49, 10]⟩), .string (⟨#[97, 32, 49, 32, 48, 46, 48, 48, 48, 49, 10]⟩), .string (⟨#[35, 32, 84, 89, 80, 69, 32, 97, 32, 104, 105, 115, 116, 111, 103, 114, 97, 109, 10, 97, 95, 98, 117, 99, 107, 101, 116, 123, 108, 101, 61, 34, 57, 50, 50, 51, 51, 55, 50, 48, 51, 54, 56, 53, 52, 55, 55, 53, 56, 48, 56, 34, 125, 32, 49, 10]⟩), .string (⟨#[35, 32, 84, 89, 80, 69, 32, 97, 32, 115, 117, 109, 109, 97, 114, 121, 10, 97, 123, 113, 117, 97, 110, 116, 105, 108, 101, 61, 34, 43, 73, 110, 102, 34, 125, 32, 49, 10]⟩)] 9)) w1.heap.size 9 rowsRC := by rw [rowsRC_lit]; exact Blk.new w1 _ _
  have hA := (hA0.alloc (.cells #[.int .i64 12, .int .i64 12, .int .i64 13, .int .i64 13, .int .i64 12, .int .i64 12, .int .i64 12, .int .i64 12, .int .i64 12, .int .i64 13] 24)).alloc (.cells #[.int .i64 2, .int .i64 4, .int .i64 32, .int .i64 19, .int .i64 29, .int .i64 25, .int .i64 25, .int .i64 4, .int .i64 32, .int .i64 29] 3)
  have hB0 : Blk ((w1.alloc (.cells #[.string (⟨#[97, 32, 57, 50, 50, 51, 51, 55, 50, 48, 51, 54, 56, 53, 52, 55, 55, 53, 56, 48, 56, 10]⟩), .string (⟨#[97, 32, 49, 32, 49, 49, 50, 53, 56, 57, 57, 57, 48, 54, 56, 52, 50, 46, 54, 50, 53, 10]⟩), .string (⟨#[35, 32, 84, 89, 80, 69, 32, 97, 32, 104, 105, 115, 116, 111, 103, 114, 97, 109, 10, 97, 95, 98, 117, 99, 107, 101, 116, 123, 108, 101, 61, 34, 120, 34, 125, 32, 49, 10]⟩), .string (⟨#[35, 32, 84, 89, 80, 69, 32, 97, 32, 104, 105, 115, 116, 111, 103, 114, 97, 109, 10, 97, 95, 98, 117, 99, 107, 101, 116, 32, 49, 10]⟩), .string (⟨#[35, 32, 84, 89, 80, 69, 32, 97, 32, 115, 117, 109, 109, 97, 114, 121, 10, 97, 123, 113, 117, 97, 110, 116, 105, 108, 101, 61, 34, 49, 46, 49, 34, 125, 32, 49, 10]⟩), .string (⟨#[35, 32, 84, 89, 80, 69, 32, 97, 32, 99, 111, 117, 110, 116, 101, 114, 10, 97, 95, 116, 111, 116, 97, 108, 32, 45, 49, 10]⟩), .string (⟨#[35, 32, 84, 89, 80, 69, 32, 97, 32, 115, 117, 109, 109, 97, 114, 121, 10, 97, 95, 99, 111, 117, 110, 116, 32, 45, 49, 10]⟩), .string (⟨#[97, 32, 49, 32, 48, 46, 48, 48, 48, 49, 10]⟩), .string (⟨#[35, 32, 84, 89, 80, 69, 32, 97, 32, 104, 105, 115, 116, 111, 103, 114, 97, 109, 10, 97, 95, 98, 117, 99, 107, 101, 116, 123, 108, 101, 61, 34, 57, 50, 50, 51, 51, 55, 50, 48, 51, 54, 56, 53, 52, 55, 55, 53, 56, 48, 56, 34, 125, 32, 49, 10]⟩), .string (⟨#[35, 32, 84, 89, 80, 69, 32, 97, 32, 115, 117, 109, 109, 97, 114, 121, 10, 97, 123, 113, 117, 97, 110, 116, 105, 108, 101, 61, 34, 43, 73, 110, 102, 34, 125, 32, 49, 10]⟩)] 9)).alloc (.cells #[.int .i64 12, .int .i64 12, .int .i64 13, .int .i64 13, .int .i64 12, .int .i64 12, .int .i64 12, .int .i64 12, .int .i64 12, .int .i64 13] 24)) (w1.heap.size + 1) 24 codesRC := by
    rw [codesRC_lit]
    have := Blk.new (w1.alloc (.cells #[.string (⟨#[97, 32, 57, 50, 50, 51, 51, 55, 50, 48, 51, 54, 56, 53, 52, 55, 55, 53, 56, 48, 56, 10]⟩), .string (⟨#[97, 32, 49, 32, 49, 49, 50, 53, 56, 57, 57, 57, 48, 54, 56, 52, 50, 46, 54, 50, 53, 10]⟩), .string (⟨#[35, 32, 84, 89, 80, 69, 32, 97, 32, 104, 105, 115, 116, 111, 103, 114, 97, 109, 10, 97, 95, 98, 117, 99, 107, 101, 116, 123, 108, 101, 61, 34, 120, 34, 125, 32, 49, 10]⟩), .string (⟨#[35, 32, 84, 89, 80, 69, 32, 97, 32, 104, 105, 115, 116, 111, 103, 114, 97, 109, 10, 97, 95, 98, 117, 99, 107, 101, 116, 32, 49, 10]⟩), .string (⟨#[35, 32, 84, 89, 80, 69, 32, 97, 32, 115, 117, 109, 109, 97, 114, 121, 10, 97, 123, 113, 117, 97, 110, 116, 105, 108, 101, 61, 34, 49, 46, 49, 34, 125, 32, 49, 10]⟩), .string (⟨#[35, 32, 84, 89, 80, 69, 32, 97, 32, 99, 111, 117, 110, 116, 101, 114, 10, 97, 95, 116, 111, 116, 97, 108, 32, 45, 49, 10]⟩), .string (⟨#[35, 32, 84, 89, 80, 69, 32, 97, 32, 115, 117, 109, 109, 97, 114, 121, 10, 97, 95, 99, 111, 117, 110, 116, 32, 45, 49, 10]⟩), .string (⟨#[97, 32, 49, 32, 48, 46, 48, 48, 48, 49, 10]⟩), .string (⟨#[35, 32, 84, 89, 80, 69, 32, 97, 32, 104, 105, 115, 116, 111, 103, 114, 97, 109, 10, 97, 95, 98, 117, 99, 107, 101, 116, 123, 108, 101, 61, 34, 57, 50, 50, 51, 51, 55, 50, 48, 51, 54, 56, 53, 52, 55, 55, 53, 56, 48, 56, 34, 125, 32, 49, 10]⟩), .string (⟨#[35, 32, 84, 89, 80, 69, 32, 97, 32, 115, 117, 109, 109, 97, 114, 121, 10, 97, 123, 113, 117, 97, 110, 116, 105, 108, 101, 61, 34, 43, 73, 110, 102, 34, 125, 32, 49, 10]⟩)] 9)) 24 #[.int .i64 12, .int .i64 12, .int .i64 13, .int .i64 13, .int .i64 12, .int .i64 12, .int .i64 12, .int .i64 12, .int .i64 12, .int .i64 13]
    simpa using this
  have hB := hB0.alloc (.cells #[.int .i64 2, .int .i64 4, .int .i64 32, .int .i64 19, .int .i64 29, .int .i64 25, .int .i64 25, .int .i64 4, .int .i64 32, .int .i64 29] 3)
  have hC : Blk (((w1.alloc (.cells #[.string (⟨#[97, 32, 57, 50, 50, 51, 51, 55, 50, 48, 51, 54, 56, 53, 52, 55, 55, 53, 56, 48, 56, 10]⟩), .string (⟨#[97, 32, 49, 32, 49, 49, 50, 53, 56, 57, 57, 57, 48, 54, 56, 52, 50, 46, 54, 50, 53, 10]⟩), .string (⟨#[35, 32, 84, 89, 80, 69, 32, 97, 32, 104, 105, 115, 116, 111, 103, 114, 97, 109, 10, 97, 95, 98, 117, 99, 107, 101, 116, 123, 108, 101, 61, 34, 120, 34, 125, 32, 49, 10]⟩), .string (⟨#[35, 32, 84, 89, 80, 69, 32, 97, 32, 104, 105, 115, 116, 111, 103, 114, 97, 109, 10, 97, 95, 98, 117, 99, 107, 101, 116, 32, 49, 10]⟩), .string (⟨#[35, 32, 84, 89, 80, 69, 32, 97, 32, 115, 117, 109, 109, 97, 114, 121, 10, 97, 123, 113, 117, 97, 110, 116, 105, 108, 101, 61, 34, 49, 46, 49, 34, 125, 32, 49, 10]⟩), .string (⟨#[35, 32, 84, 89, 80, 69, 32, 97, 32, 99, 111, 117, 110, 116, 101, 114, 10, 97, 95, 116, 111, 116, 97, 108, 32, 45, 49, 10]⟩), .string (⟨#[35, 32, 84, 89, 80, 69, 32, 97, 32, 115, 117, 109, 109, 97, 114, 121, 10, 97, 95, 99, 111, 117, 110, 116, 32, 45, 49, 10]⟩), .string (⟨#[97, 32, 49, 32, 48, 46, 48, 48, 48, 49, 10]⟩), .string (⟨#[35, 32, 84, 89, 80, 69, 32, 97, 32, 104, 105, 115, 116, 111, 103, 114, 97, 109, 10, 97, 95, 98, 117, 99, 107, 101, 116, 123, 108, 101, 61, 34, 57, 50, 50, 51, 51, 55, 50, 48, 51, 54, 56, 53, 52, 55, 55, 53, 56, 48, 56, 34, 125, 32, 49, 10]⟩), .string (⟨#[35, 32, 84, 89, 80, 69, 32, 97, 32, 115, 117, 109, 109, 97, 114, 121, 10, 97, 123, 113, 117, 97, 110, 116, 105, 108, 101, 61, 34, 43, 73, 110, 102, 34, 125, 32, 49, 10]⟩)] 9)).alloc (.cells #[.int .i64 12, .int .i64 12, .int .i64 13, .int .i64 13, .int .i64 12, .int .i64 12, .int .i64 12, .int .i64 12, .int .i64 12, .int .i64 13] 24)).alloc (.cells #[.int .i64 2, .int .i64 4, .int .i64 32, .int .i64 19, .int .i64 29, .int .i64 25, .int .i64 25, .int .i64 4, .int .i64 32, .int .i64 29] 3)) (w1.heap.size + 2) 3 offsRC := by
    rw [offsRC_lit]
    have := Blk.new ((w1.alloc (.cells #[.string (⟨#[97, 32, 57, 50, 50, 51, 51, 55, 50, 48, 51, 54, 56, 53, 52, 55, 55, 53, 56, 48, 56, 10]⟩), .string (⟨#[97, 32, 49, 32, 49, 49, 50, 53, 56, 57, 57, 57, 48, 54, 56, 52, 50, 46, 54, 50, 53, 10]⟩), .string (⟨#[35, 32, 84, 89, 80, 69, 32, 97, 32, 104, 105, 115, 116, 111, 103, 114, 97, 109, 10, 97, 95, 98, 117, 99, 107, 101, 116, 123, 108, 101, 61, 34, 120, 34, 125, 32, 49, 10]⟩), .string (⟨#[35, 32, 84, 89, 80, 69, 32, 97, 32, 104, 105, 115, 116, 111, 103, 114, 97, 109, 10, 97, 95, 98, 117, 99, 107, 101, 116, 32, 49, 10]⟩), .string (⟨#[35, 32, 84, 89, 80, 69, 32, 97, 32, 115, 117, 109, 109, 97, 114, 121, 10, 97, 123, 113, 117, 97, 110, 116, 105, 108, 101, 61, 34, 49, 46, 49, 34, 125, 32, 49, 10]⟩), .string (⟨#[35, 32, 84, 89, 80, 69, 32, 97, 32, 99, 111, 117, 110, 116, 101, 114, 10, 97, 95, 116, 111, 116, 97, 108, 32, 45, 49, 10]⟩), .string (⟨#[35, 32, 84, 89, 80, 69, 32, 97, 32, 115, 117, 109, 109, 97, 114, 121, 10, 97, 95, 99, 111, 117, 110, 116, 32, 45, 49, 10]⟩), .string (⟨#[97, 32, 49, 32, 48, 46, 48, 48, 48, 49, 10]⟩), .string (⟨#[35, 32, 84, 89, 80, 69, 32, 97, 32, 104, 105, 115, 116, 111, 103, 114, 97, 109, 10, 97, 95, 98, 117, 99, 107, 101, 116, 123, 108, 101, 61, 34, 57, 50, 50, 51, 51, 55, 50, 48, 51, 54, 56, 53, 52, 55, 55, 53, 56, 48, 56, 34, 125, 32, 49, 10]⟩), .string (⟨#[35, 32, 84, 89, 80, 69, 32, 97, 32, 115, 117, 109, 109, 97, 114, 121, 10, 97, 123, 113, 117, 97, 110, 116, 105, 108, 101, 61, 34, 43, 73, 110, 102, 34, 125, 32, 49, 10]⟩)] 9)).alloc (.cells #[.int .i64 12, .int .i64 12, .int .i64 13, .int .i64 13, .int .i64 12, .int .i64 12, .int .i64 12, .int .i64 12, .int .i64 12, .int .i64 13] 24)) 3 #[.int .i64 2, .int .i64 4, .int .i64 32, .int .i64 19, .int .i64 29, .int .i64 25, .int .i64 25, .int .i64 4, .int .i64 32, .int .i64 29]
    simpa using this
  have hbl : Below w.heap.size w (((w1.alloc (.cells #[.string (⟨#[97, 32, 57, 50, 50, 51, 51, 55, 50, 48, 51, 54, 56, 53, 52, 55, 55, 53, 56, 48, 56, 10]⟩), .string (⟨#[97, 32, 49, 32, 49, 49, 50, 53, 56, 57, 57, 57, 48, 54, 56, 52, 50, 46, 54, 50, 53, 10]⟩), .string (⟨#[35, 32, 84, 89, 80, 69, 32, 97, 32, 104, 105, 115, 116, 111, 103, 114, 97, 109, 10, 97, 95, 98, 117, 99, 107, 101, 116, 123, 108, 101, 61, 34, 120, 34, 125, 32, 49, 10]⟩), .string (⟨#[35, 32, 84, 89, 80, 69, 32, 97, 32, 104, 105, 115, 116, 111, 103, 114, 97, 109, 10, 97, 95, 98, 117, 99, 107, 101, 116, 32, 49, 10]⟩), .string (⟨#[35, 32, 84, 89, 80, 69, 32, 97, 32, 115, 117, 109, 109, 97, 114, 121, 10, 97, 123, 113, 117, 97, 110, 116, 105, 108, 101, 61, 34, 49, 46, 49, 34, 125, 32, 49, 10]⟩), .string (⟨#[35, 32, 84, 89, 80, 69, 32, 97, 32, 99, 111, 117, 110, 116, 101, 114, 10, 97, 95, 116, 111, 116, 97, 108, 32, 45, 49, 10]⟩), .string (⟨#[35, 32, 84, 89, 80, 69, 32, 97, 32, 115, 117, 109, 109, 97, 114, 121, 10, 97, 95, 99, 111, 117, 110, 116, 32, 45, 49, 10]⟩), .string (⟨#[97, 32, 49, 32, 48, 46, 48, 48, 48, 49, 10]⟩), .string (⟨#[35, 32, 84, 89, 80, 69, 32, 97, 32, 104, 105, 115, 116, 111, 103, 114, 97, 109, 10, 97, 95, 98, 117, 99, 107, 101, 116, 123, 108, 101, 61, 34, 57, 50, 50, 51, 51, 55, 50, 48, 51, 54, 56, 53, 52, 55, 55, 53, 56, 48, 56, 34, 125, 32, 49, 10]⟩), .string (⟨#[35, 32, 84, 89, 80, 69, 32, 97, 32, 115, 117, 109, 109, 97, 114, 121, 10, 97, 123, 113, 117, 97, 110, 116, 105, 108, 101, 61, 34, 43, 73, 110, 102, 34, 125, 32, 49, 10]⟩)] 9)).alloc (.cells #[.int .i64 12, .int .i64 12, .int .i64 13, .int .i64 13, .int .i64 12, .int .i64 12, .int .i64 12, .int .i64 12, .int .i64 12, .int .i64 13] 24)).alloc (.cells #[.int .i64 2, .int .i64 4, .int .i64 32, .int .i64 19, .int .i64 29, .int .i64 25, .int .i64 25, .int .i64 4, .int .i64 32, .int .i64 29] 3)) := bl_alloc (bl_alloc (bl_alloc hb1 _) _) _
  generalize ((w1.alloc (.cells #[.string (⟨#[97, 32, 57, 50, 50, 51, 51, 55, 50, 48, 51, 54, 56, 53, 52, 55, 55, 53, 56, 48, 56, 10]⟩), .string (⟨#[97, 32, 49, 32, 49, 49, 50, 53, 56, 57, 57, 57, 48, 54, 56, 52, 50, 46, 54, 50, 53, 10]⟩), .string (⟨#[35, 32, 84, 89, 80, 69, 32, 97, 32, 104, 105, 115, 116, 111, 103, 114, 97, 109, 10, 97, 95, 98, 117, 99, 107, 101, 116, 123, 108, 101, 61, 34, 120, 34, 125, 32, 49, 10]⟩), .string (⟨#[35, 32, 84, 89, 80, 69, 32, 97, 32, 104, 105, 115, 116, 111, 103, 114, 97, 109, 10, 97, 95, 98, 117, 99, 107, 101, 116, 32, 49, 10]⟩), .string (⟨#[35, 32, 84, 89, 80, 69, 32, 97, 32, 115, 117, 109, 109, 97, 114, 121, 10, 97, 123, 113, 117, 97, 110, 116, 105, 108, 101, 61, 34, 49, 46, 49, 34, 125, 32, 49, 10]⟩), .string (⟨#[35, 32, 84, 89, 80, 69, 32, 97, 32, 99, 111, 117, 110, 116, 101, 114, 10, 97, 95, 116, 111, 116, 97, 108, 32, 45, 49, 10]⟩), .string (⟨#[35, 32, 84, 89, 80, 69, 32, 97, 32, 115, 117, 109, 109, 97, 114, 121, 10, 97, 95, 99, 111, 117, 110, 116, 32, 45, 49, 10]⟩), .string (⟨#[97, 32, 49, 32, 48, 46, 48, 48, 48, 49, 10]⟩), .string (⟨#[35, 32, 84, 89, 80, 69, 32, 97, 32, 104, 105, 115, 116, 111, 103, 114, 97, 109, 10, 97, 95, 98, 117, 99, 107, 101, 116, 123, 108, 101, 61, 34, 57, 50, 50, 51, 51, 55, 50, 48, 51, 54, 56, 53, 52, 55, 55, 53, 56, 48, 56, 34, 125, 32, 49, 10]⟩), .string (⟨#[35, 32, 84, 89, 80, 69, 32, 97, 32, 115, 117, 109, 109, 97, 114, 121, 10, 97, 123, 113, 117, 97, 110, 116, 105, 108, 101, 61, 34, 43, 73, 110, 102, 34, 125, 32, 49, 10]⟩)] 9)).alloc (.cells #[.int .i64 12, .int .i64 12, .int .i64 13, .int .i64 13, .int .i64 12, .int .i64 12, .int .i64 12, .int .i64 12, .int .i64 12, .int .i64 13] 24)).alloc (.cells #[.int .i64 2, .int .i64 4, .int .i64 32, .int .i64 19, .int .i64 29, .int .i64 25, .int .i64 25, .int .i64 4, .int .i64 32, .int .i64 29] 3) = W at *
  generalize w1.heap.size = b at *
  clear hA0 hB0 hb1
  obtain ⟨k, hk⟩ : ∃ k : Nat, h.tmod 10 = (k : Int) := ⟨(h.tmod 10).toNat, by rw [Int.toNat_of_nonneg]; rw [Int.tmod_eq_emod_of_nonneg h0]; omega⟩
  have hk10 : k < 10 := by rw [Int.tmod_eq_emod_of_nonneg h0] at hk; omega
  have wk : IntKind.i64.wrap (k : Int) = (k : Int) := IntWalk.i64_in _ (by omega)
  have wh : IntKind.i64.wrap h = h := IntWalk.i64_in _ (by omega)
  have t1 := rngB_at hk10
  have tf := rngB_f hk10
  have ts : (rowsRB.getD k ⟨#[]⟩).size ≤ 100 := of_decide_eq_true (range_at rngB_size hk10)
  have cA := (Blk.cell hA k).trans (rowsRC_at hk10)
  have k0 : (0 : Int) ≤ k := by omega
  have k1 : (k : Int) < 10 := by omega
  have ak := rowsRC_at hk10
  have ck := codesRC_at hk10
  have ok := offsRC_at hk10
  generalize rowsRB.getD k ⟨#[]⟩ = S at *
  generalize codesRB.getD k 0 = cd at *
  generalize offsRB.getD k 0 = of_ at *
  have hes : (S ++ eofS).size = S.size + 5 := by rw [ByteArray.size_append]; rfl
  have hE : eofS = ⟨#[35, 32, 69, 79, 70]⟩ := rfl
  rw [hE] at t1 tf hes
  have kR : ∀ W, Calls Tryz.prog 9 #[.string (S ++ ⟨#[35, 32, 69, 79, 70]⟩)] W fun en w' => en = .returned (.tuple #[.slice none 0 0, .agg #[.int .i64 (cd : Int), .int .i64 (fltO cd S of_), .int .i64 (fltL cd S of_), .int .i64 (fltC cd S of_)]]) ∧ Below W.heap.size W w' := fun W => by
    have hh := oread18_any (S ++ ⟨#[35, 32, 69, 79, 70]⟩) W (by omega) (by rw [t1]; intro gs hg; cases hg)
    have e : readR (S ++ ⟨#[35, 32, 69, 79, 70]⟩ : ByteArray).data.toList = .error (cd, of_) := by unfold readR; rw [t1]
    rw [e] at hh
    simp only [ReadOP] at hh
    rw [tf.1, tf.2.1, tf.2.2] at hh
    exact hh
  have kAt := fun W => spAt_any (cd : Int) S (of_ : Int) W (by omega)
  have l1 : ¬ 9223372036854775807 < S.size + 5 := by omega
  clear t1 tf hes hE
  have ef := fun a0 a1 a2 a3 b0 b1 b2 b3 w => eqFault a0 a1 a2 a3 b0 b1 b2 b3 w
  go_upto_region 8 with (go_at_call 9; (with_reducible refine (kR _).mono ?_); rintro en w3 ⟨rfl, hb3⟩)
  have hOn : OnR w (w3.alloc (.cells #[.int .i64 (cd : Int), .int .i64 (fltO cd S of_), .int .i64 (fltL cd S of_), .int .i64 (fltC cd S of_)] 31)) w3.heap.size b k (cd : Int) (fltO cd S of_) (fltL cd S of_) (fltC cd S of_) S of_ :=
    ⟨Blk.new w3 _ _, (hA.below hb3 (Blk.lt hA)).alloc _, (hB.below hb3 (Blk.lt hB)).alloc _, (hC.below hb3 (Blk.lt hC)).alloc _, ak, ck, ok, bl_alloc (bl_any hbl hb3) _⟩
  generalize w3.alloc (.cells #[.int .i64 (cd : Int), .int .i64 (fltO cd S of_), .int .i64 (fltL cd S of_), .int .i64 (fltC cd S of_)] 31) = W4 at *
  generalize w3.heap.size = f at *
  clear hb3 kR cA ak ck ok
  generalize fltO cd S of_ = fo at *
  generalize fltL cd S of_ = fl at *
  generalize fltC cd S of_ = fc at *
  go_region_held3 (fun w' => (w'.cell? ⟨f, 0, none⟩ = some (.int .i64 (cd : Int)) ∧ w'.cell? ⟨f, 1, none⟩ = some (.int .i64 fo) ∧ w'.cell? ⟨f, 2, none⟩ = some (.int .i64 fl) ∧ w'.cell? ⟨f, 3, none⟩ = some (.int .i64 fc) ∧ w'.cell? ⟨b, k, none⟩ = some (.string S) ∧ w'.cell? ⟨b + 1, k, none⟩ = some (.int .i64 (cd : Int)) ∧ w'.cell? ⟨b + 2, k, none⟩ = some (.int .i64 (of_ : Int))) ∧ OnR w w' f b k (cd : Int) fo fl fc S of_) (first | (with_reducible assumption) | (with_reducible exact hOn.drew.fs)) (first
    | (go_at_call 10; (with_reducible refine (kAt _).mono ?_); rintro en w5 ⟨rfl, hb5⟩; have S5 := (OnR.below (And.right (by with_reducible assumption)) hb5).fs))
  all_goals
    rename_i hHeld
    obtain ⟨_, hY⟩ := hHeld
    go_wp2_with fail
    go_ret
    exact ⟨rfl, hY.bl⟩
end
section
structure OnT (w0 w : World) (f b k : Nat) (o l q : Int) (S : ByteArray) (of_ : Int) : Prop where
  fb : Blk w f 31 #[.int .i64 13, .int .i64 o, .int .i64 l, .int .i64 q]
  ab : Blk w b 9 rowsTC
  ob : Blk w (b + 1) 3 offsTC
  ak : rowsTC[k]? = some (.string S)
  ok : offsTC[k]? = some (.int .i64 of_)
  bl : Below w0.heap.size w0 w
theorem OnT.below {w0 w w' : World} {f b k : Nat} {o l q : Int} {S : ByteArray} {of_ : Int} (h : OnT w0 w f b k o l q S of_) (a : Below w.heap.size w w') : OnT w0 w' f b k o l q S of_ :=
  ⟨h.fb.below a (Blk.lt h.fb), h.ab.below a (Blk.lt h.ab), h.ob.below a (Blk.lt h.ob), h.ak, h.ok, bl_any h.bl a⟩
theorem OnT.drew {w0 w : World} {f b k : Nat} {o l q : Int} {S : ByteArray} {of_ : Int} (h : OnT w0 w f b k o l q S of_) : OnT w0 w.drew f b k o l q S of_ := ⟨h.fb, h.ab, h.ob, h.ak, h.ok, h.bl.drew⟩
theorem OnT.fs {w0 w : World} {f b k : Nat} {o l q : Int} {S : ByteArray} {of_ : Int} (h : OnT w0 w f b k o l q S of_) : (w.cell? ⟨f, 0, none⟩ = some (.int .i64 13) ∧ w.cell? ⟨f, 1, none⟩ = some (.int .i64 o) ∧ w.cell? ⟨f, 2, none⟩ = some (.int .i64 l) ∧ w.cell? ⟨f, 3, none⟩ = some (.int .i64 q) ∧ w.cell? ⟨b, k, none⟩ = some (.string S) ∧ w.cell? ⟨b + 1, k, none⟩ = some (.int .i64 of_)) ∧ OnT w0 w f b k o l q S of_ :=
  ⟨⟨(Blk.cell h.fb 0).trans rfl, (Blk.cell h.fb 1).trans rfl, (Blk.cell h.fb 2).trans rfl, (Blk.cell h.fb 3).trans rfl, (Blk.cell h.ab k).trans h.ak, (Blk.cell h.ob k).trans h.ok⟩, h⟩
theorem read_okT (T : ByteArray) (l : List MFam) (W : World) (hT : T.size ≤ 1000) (h : readO T.data.toList = .ok l) (h1 : 1 ≤ l.length) (hp : ∀ f ∈ l, f.pts.length ≤ 1) :
    Calls Tryz.prog 9 #[.string T] W fun en w' => (∃ A n c, en = .returned (.tuple #[.slice A n c, .agg #[.int .i64 0, .int .i64 0, .int .i64 0, .int .i64 0]]) ∧ 1 ≤ n) ∧ Below W.heap.size W w' := by
  have hh := oread18_any T W (by omega) (by rw [h]; intro gs hg; injection hg with hg; subst hg; intro g hg; have := hp g hg; omega)
  have e : readR T.data.toList = .ok (sortC cmpFamN (l.map sortF)) := by unfold readR; rw [h]
  rw [e] at hh
  refine hh.mono fun en w' hq => ⟨?_, hq.2⟩
  obtain ⟨A, c, base, fs, h2, _⟩ := hq.1
  refine ⟨A, _, c, h2, ?_⟩
  have : (sortC cmpFamN (l.map sortF)).length = l.length := by
    show (sortC cmpFam (l.map sortF)).length = _
    rw [(cmpFam_cmp.sorted (l.map sortF)).1.length_eq, List.length_map]
  omega
theorem read_errT (T : ByteArray) (c o : Nat) (W : World) (hT : T.size ≤ 1000) (h : readO T.data.toList = .error (c, o)) :
    Calls Tryz.prog 9 #[.string T] W fun en w' => en = .returned (.tuple #[.slice none 0 0, .agg #[.int .i64 (c : Int), .int .i64 (fltO c T o), .int .i64 (fltL c T o), .int .i64 (fltC c T o)]]) ∧ Below W.heap.size W w' := by
  have hh := oread18_any T W (by omega) (by rw [h]; intro gs hg; cases hg)
  have e : readR T.data.toList = .error (c, o) := by unfold readR; rw [h]
  rw [e] at hh
  simp only [ReadOP] at hh
  exact hh
set_option maxRecDepth 100000 in
set_option maxHeartbeats 6400000 in
theorem twice18_any (h : Int) (more : Bool) (w : World) (h0 : 0 ≤ h) (h1 : h ≤ 255) :
    Calls Tryz.prog 7 #[.int .u8 h, .bool more] w fun e w' => e = .returned (.bool true) ∧ Below w.heap.size w w' := by
  have kK := known18_any w
  go_enter Tryz.func7, Tryz.ntmps7
  go_upto_region 5 with (go_at_call 8; (with_reducible refine kK.mono ?_); rintro en w1 ⟨rfl, hb1⟩)
  have hA0 : Blk (w1.alloc (.cells #[.string (⟨#[97, 32, 49, 10]⟩), .string (⟨#[35, 32, 84, 89, 80, 69, 32, 97, 32, 103, 97, 117, 103, 101, 10]⟩), .string (⟨#[35, 32, 84, 89, 80, 69, 32, 97, 32, 103, 97, 117, 103, 101, 10, 35, 32, 84, 89, 80, 69, 32, 97, 32, 103, 97, 117, 103, 101, 10]⟩), .string (⟨#[97, 32, 49, 10, 98, 32, 49, 10, 97, 123, 120, 61, 34, 34, 125, 32, 49, 10]⟩), .string (⟨#[97, 32, 49, 10, 97, 32, 50, 10]⟩), .string (⟨#[97, 32, 49, 32, 50, 10, 97, 32, 49, 32, 50, 46, 48, 10]⟩), .string (⟨#[35, 32, 72, 69, 76, 80, 32, 97, 32, 120, 10, 35, 32, 72, 69, 76, 80, 32, 97, 32, 120, 10]⟩), .string (⟨#[35, 32, 84, 89, 80, 69, 32, 97, 32, 99, 111, 117, 110, 116, 101, 114, 10, 97, 32, 49, 10]⟩), .string (⟨#[35, 32, 84, 89, 80, 69, 32, 97, 32, 103, 97, 117, 103, 101, 10, 98, 32, 49, 10, 35, 32, 72, 69, 76, 80, 32, 97, 32, 120, 10]⟩), .string (⟨#[97, 32, 49, 10, 35, 32, 85, 78, 73, 84, 32, 97, 32, 97, 10]⟩)] 9)) w1.heap.size 9 rowsTC := by rw [rowsTC_lit]; exact Blk.new w1 _ _
  have hA := hA0.alloc (.cells #[.int .i64 (-1), .int .i64 (-1), .int .i64 22, .int .i64 8, .int .i64 4, .int .i64 6, .int .i64 18, .int .i64 17, .int .i64 26, .int .i64 11] 3)
  have hC : Blk ((w1.alloc (.cells #[.string (⟨#[97, 32, 49, 10]⟩), .string (⟨#[35, 32, 84, 89, 80, 69, 32, 97, 32, 103, 97, 117, 103, 101, 10]⟩), .string (⟨#[35, 32, 84, 89, 80, 69, 32, 97, 32, 103, 97, 117, 103, 101, 10, 35, 32, 84, 89, 80, 69, 32, 97, 32, 103, 97, 117, 103, 101, 10]⟩), .string (⟨#[97, 32, 49, 10, 98, 32, 49, 10, 97, 123, 120, 61, 34, 34, 125, 32, 49, 10]⟩), .string (⟨#[97, 32, 49, 10, 97, 32, 50, 10]⟩), .string (⟨#[97, 32, 49, 32, 50, 10, 97, 32, 49, 32, 50, 46, 48, 10]⟩), .string (⟨#[35, 32, 72, 69, 76, 80, 32, 97, 32, 120, 10, 35, 32, 72, 69, 76, 80, 32, 97, 32, 120, 10]⟩), .string (⟨#[35, 32, 84, 89, 80, 69, 32, 97, 32, 99, 111, 117, 110, 116, 101, 114, 10, 97, 32, 49, 10]⟩), .string (⟨#[35, 32, 84, 89, 80, 69, 32, 97, 32, 103, 97, 117, 103, 101, 10, 98, 32, 49, 10, 35, 32, 72, 69, 76, 80, 32, 97, 32, 120, 10]⟩), .string (⟨#[97, 32, 49, 10, 35, 32, 85, 78, 73, 84, 32, 97, 32, 97, 10]⟩)] 9)).alloc (.cells #[.int .i64 (-1), .int .i64 (-1), .int .i64 22, .int .i64 8, .int .i64 4, .int .i64 6, .int .i64 18, .int .i64 17, .int .i64 26, .int .i64 11] 3)) (w1.heap.size + 1) 3 offsTC := by
    rw [offsTC_lit]
    have := Blk.new (w1.alloc (.cells #[.string (⟨#[97, 32, 49, 10]⟩), .string (⟨#[35, 32, 84, 89, 80, 69, 32, 97, 32, 103, 97, 117, 103, 101, 10]⟩), .string (⟨#[35, 32, 84, 89, 80, 69, 32, 97, 32, 103, 97, 117, 103, 101, 10, 35, 32, 84, 89, 80, 69, 32, 97, 32, 103, 97, 117, 103, 101, 10]⟩), .string (⟨#[97, 32, 49, 10, 98, 32, 49, 10, 97, 123, 120, 61, 34, 34, 125, 32, 49, 10]⟩), .string (⟨#[97, 32, 49, 10, 97, 32, 50, 10]⟩), .string (⟨#[97, 32, 49, 32, 50, 10, 97, 32, 49, 32, 50, 46, 48, 10]⟩), .string (⟨#[35, 32, 72, 69, 76, 80, 32, 97, 32, 120, 10, 35, 32, 72, 69, 76, 80, 32, 97, 32, 120, 10]⟩), .string (⟨#[35, 32, 84, 89, 80, 69, 32, 97, 32, 99, 111, 117, 110, 116, 101, 114, 10, 97, 32, 49, 10]⟩), .string (⟨#[35, 32, 84, 89, 80, 69, 32, 97, 32, 103, 97, 117, 103, 101, 10, 98, 32, 49, 10, 35, 32, 72, 69, 76, 80, 32, 97, 32, 120, 10]⟩), .string (⟨#[97, 32, 49, 10, 35, 32, 85, 78, 73, 84, 32, 97, 32, 97, 10]⟩)] 9)) 3 #[.int .i64 (-1), .int .i64 (-1), .int .i64 22, .int .i64 8, .int .i64 4, .int .i64 6, .int .i64 18, .int .i64 17, .int .i64 26, .int .i64 11]
    simpa using this
  have hbl : Below w.heap.size w ((w1.alloc (.cells #[.string (⟨#[97, 32, 49, 10]⟩), .string (⟨#[35, 32, 84, 89, 80, 69, 32, 97, 32, 103, 97, 117, 103, 101, 10]⟩), .string (⟨#[35, 32, 84, 89, 80, 69, 32, 97, 32, 103, 97, 117, 103, 101, 10, 35, 32, 84, 89, 80, 69, 32, 97, 32, 103, 97, 117, 103, 101, 10]⟩), .string (⟨#[97, 32, 49, 10, 98, 32, 49, 10, 97, 123, 120, 61, 34, 34, 125, 32, 49, 10]⟩), .string (⟨#[97, 32, 49, 10, 97, 32, 50, 10]⟩), .string (⟨#[97, 32, 49, 32, 50, 10, 97, 32, 49, 32, 50, 46, 48, 10]⟩), .string (⟨#[35, 32, 72, 69, 76, 80, 32, 97, 32, 120, 10, 35, 32, 72, 69, 76, 80, 32, 97, 32, 120, 10]⟩), .string (⟨#[35, 32, 84, 89, 80, 69, 32, 97, 32, 99, 111, 117, 110, 116, 101, 114, 10, 97, 32, 49, 10]⟩), .string (⟨#[35, 32, 84, 89, 80, 69, 32, 97, 32, 103, 97, 117, 103, 101, 10, 98, 32, 49, 10, 35, 32, 72, 69, 76, 80, 32, 97, 32, 120, 10]⟩), .string (⟨#[97, 32, 49, 10, 35, 32, 85, 78, 73, 84, 32, 97, 32, 97, 10]⟩)] 9)).alloc (.cells #[.int .i64 (-1), .int .i64 (-1), .int .i64 22, .int .i64 8, .int .i64 4, .int .i64 6, .int .i64 18, .int .i64 17, .int .i64 26, .int .i64 11] 3)) := bl_alloc (bl_alloc hb1 _) _
  generalize (w1.alloc (.cells #[.string (⟨#[97, 32, 49, 10]⟩), .string (⟨#[35, 32, 84, 89, 80, 69, 32, 97, 32, 103, 97, 117, 103, 101, 10]⟩), .string (⟨#[35, 32, 84, 89, 80, 69, 32, 97, 32, 103, 97, 117, 103, 101, 10, 35, 32, 84, 89, 80, 69, 32, 97, 32, 103, 97, 117, 103, 101, 10]⟩), .string (⟨#[97, 32, 49, 10, 98, 32, 49, 10, 97, 123, 120, 61, 34, 34, 125, 32, 49, 10]⟩), .string (⟨#[97, 32, 49, 10, 97, 32, 50, 10]⟩), .string (⟨#[97, 32, 49, 32, 50, 10, 97, 32, 49, 32, 50, 46, 48, 10]⟩), .string (⟨#[35, 32, 72, 69, 76, 80, 32, 97, 32, 120, 10, 35, 32, 72, 69, 76, 80, 32, 97, 32, 120, 10]⟩), .string (⟨#[35, 32, 84, 89, 80, 69, 32, 97, 32, 99, 111, 117, 110, 116, 101, 114, 10, 97, 32, 49, 10]⟩), .string (⟨#[35, 32, 84, 89, 80, 69, 32, 97, 32, 103, 97, 117, 103, 101, 10, 98, 32, 49, 10, 35, 32, 72, 69, 76, 80, 32, 97, 32, 120, 10]⟩), .string (⟨#[97, 32, 49, 10, 35, 32, 85, 78, 73, 84, 32, 97, 32, 97, 10]⟩)] 9)).alloc (.cells #[.int .i64 (-1), .int .i64 (-1), .int .i64 22, .int .i64 8, .int .i64 4, .int .i64 6, .int .i64 18, .int .i64 17, .int .i64 26, .int .i64 11] 3) = W at *
  generalize w1.heap.size = b at *
  clear hA0 hb1
  obtain ⟨k, hk⟩ : ∃ k : Nat, h.tmod 10 = (k : Int) := ⟨(h.tmod 10).toNat, by rw [Int.toNat_of_nonneg]; rw [Int.tmod_eq_emod_of_nonneg h0]; omega⟩
  have hk10 : k < 10 := by rw [Int.tmod_eq_emod_of_nonneg h0] at hk; omega
  have wk : IntKind.i64.wrap (k : Int) = (k : Int) := IntWalk.i64_in _ (by omega)
  have wh : IntKind.i64.wrap h = h := IntWalk.i64_in _ (by omega)
  have tok := fun hn => twB_ok more hk10 hn
  have ter := fun hn => twB_err more hk10 hn
  have tf := fun hn => twB_f more hk10 hn
  have ts := range_at twB_size hk10
  simp only [Bool.and_eq_true, decide_eq_true_eq] at ts
  have cA := (Blk.cell hA k).trans (rowsTC_at hk10)
  have cC := (Blk.cell hC k).trans (offsTC_at hk10)
  have k0 : (0 : Int) ≤ k := by omega
  have k1 : (k : Int) < 10 := by omega
  have ak := rowsTC_at hk10
  have ok := offsTC_at hk10
  generalize rowsTB.getD k ⟨#[]⟩ = S at *
  generalize offsTB.getD k 0 = of_ at *
  obtain ⟨ts1, ts2, ts3⟩ := ts
  have ef := fun a0 a1 a2 a3 b0 b1 b2 b3 w => eqFault a0 a1 a2 a3 b0 b1 b2 b3 w
  cases more
  · have eP : preS false = ⟨#[]⟩ := rfl
    have eE : eofS = ⟨#[35, 32, 69, 79, 70]⟩ := rfl
    rw [eP, eE] at tok ter tf
    have hz0 : (⟨#[]⟩ ++ S : ByteArray).size = 0 + S.size := by rw [ByteArray.size_append]; rfl
    have hz : (⟨#[]⟩ ++ S ++ ⟨#[35, 32, 69, 79, 70]⟩ : ByteArray).size = 0 + S.size + 5 := by rw [ByteArray.size_append, hz0]; rfl
    have hpz : (⟨#[]⟩ : ByteArray).size = 0 := rfl
    rw [hpz] at ter tf
    have l1 : ¬ 9223372036854775807 < 0 + S.size := by omega
    have l2 : ¬ 9223372036854775807 < 0 + S.size + 5 := by omega
    have l1' : ¬ 9223372036854775807 < S.size := by omega
    have l2' : ¬ 9223372036854775807 < S.size + 5 := by omega
    by_cases hneg : of_ < 0
    · have dn : decide (of_ < 0) = true := decide_eq_true hneg
      obtain ⟨L, e1, e2, e3⟩ := tok hneg
      have kR := fun W => read_okT (⟨#[]⟩ ++ S ++ ⟨#[35, 32, 69, 79, 70]⟩) L W (by omega) e1 e2 e3
      clear tok ter tf e1 e2 e3 hneg hz hz0
      go_upto_region 10 with (go_at_call 9; (with_reducible refine (kR _).mono ?_); rintro en w3 ⟨⟨A, n, cc, rfl, hn⟩, hb3⟩)
      have hF := Blk.new w3 31 #[.int .i64 0, .int .i64 0, .int .i64 0, .int .i64 0]
      have f0 := (Blk.cell hF 0).trans rfl
      have hC4 := (hC.below hb3 (Blk.lt hC)).alloc (.cells #[.int .i64 0, .int .i64 0, .int .i64 0, .int .i64 0] 31)
      have c4 := (Blk.cell hC4 k).trans ok
      have hb4 := bl_alloc (bl_any hbl hb3) (.cells #[.int .i64 0, .int .i64 0, .int .i64 0, .int .i64 0] 31)
      have g1 : decide ((1 : Int) ≤ (n : Int)) = true := decide_eq_true (by omega)
      have g1n : decide (1 ≤ n) = true := decide_eq_true hn
      generalize w3.alloc (.cells #[.int .i64 0, .int .i64 0, .int .i64 0, .int .i64 0] 31) = W4 at *
      clear kR cA cC
      go_wp2_with fail
      go_ret
      exact ⟨rfl, hb4⟩
    · have dn : decide (of_ < 0) = false := decide_eq_false hneg
      obtain ⟨on, rfl⟩ : ∃ on : Nat, of_ = (on : Int) := ⟨of_.toNat, by omega⟩
      have e1 := ter hneg
      obtain ⟨u1, u2, u3⟩ := tf hneg
      simp only [Int.toNat_natCast] at e1 u1 u2 u3
      have kR := fun W => read_errT (⟨#[]⟩ ++ S ++ ⟨#[35, 32, 69, 79, 70]⟩) 13 (0 + on) W (by omega) e1
      simp only [Int.cast_ofNat_Int, u1, u2, u3] at kR
      have eo : ((0 + on : Nat) : Int) = (on : Int) := by omega
      rw [eo] at kR
      have wz : IntKind.i64.wrap ((on : Int)) = (on : Int) := IntWalk.i64_in _ (by omega)
      have kAt := fun W => spAt_any 13 (⟨#[]⟩ ++ S) ((on : Int)) W (by omega)
      clear tok ter tf e1 hneg hz hz0 u1 u2 u3
      go_upto_region 10 with (go_at_call 9; (with_reducible refine (kR _).mono ?_); rintro en w3 ⟨rfl, hb3⟩)
      have hOn : OnT w (w3.alloc (.cells #[.int .i64 13, .int .i64 (fltO 13 (⟨#[]⟩ ++ S) ((on : Int))), .int .i64 (fltL 13 (⟨#[]⟩ ++ S) ((on : Int))), .int .i64 (fltC 13 (⟨#[]⟩ ++ S) ((on : Int)))] 31)) w3.heap.size b k (fltO 13 (⟨#[]⟩ ++ S) ((on : Int))) (fltL 13 (⟨#[]⟩ ++ S) ((on : Int))) (fltC 13 (⟨#[]⟩ ++ S) ((on : Int))) S (on : Int) :=
        ⟨Blk.new w3 _ _, (hA.below hb3 (Blk.lt hA)).alloc _, (hC.below hb3 (Blk.lt hC)).alloc _, ak, ok, bl_alloc (bl_any hbl hb3) _⟩
      generalize w3.alloc (.cells #[.int .i64 13, .int .i64 (fltO 13 (⟨#[]⟩ ++ S) ((on : Int))), .int .i64 (fltL 13 (⟨#[]⟩ ++ S) ((on : Int))), .int .i64 (fltC 13 (⟨#[]⟩ ++ S) ((on : Int)))] 31) = W4 at *
      generalize w3.heap.size = f at *
      clear hb3 kR cA cC
      generalize fltO 13 (⟨#[]⟩ ++ S) ((on : Int)) = fo at *
      generalize fltL 13 (⟨#[]⟩ ++ S) ((on : Int)) = fl at *
      generalize fltC 13 (⟨#[]⟩ ++ S) ((on : Int)) = fc at *
      have c4 := hOn.fs.1.2.2.2.2.2
      go_upto_region 12 with (fail)
      go_region_held3 (fun w' => (w'.cell? ⟨f, 0, none⟩ = some (.int .i64 13) ∧ w'.cell? ⟨f, 1, none⟩ = some (.int .i64 fo) ∧ w'.cell? ⟨f, 2, none⟩ = some (.int .i64 fl) ∧ w'.cell? ⟨f, 3, none⟩ = some (.int .i64 fc) ∧ w'.cell? ⟨b, k, none⟩ = some (.string S) ∧ w'.cell? ⟨b + 1, k, none⟩ = some (.int .i64 (on : Int))) ∧ OnT w w' f b k fo fl fc S (on : Int)) (first | (with_reducible assumption) | (with_reducible exact hOn.drew.fs)) (first
        | (go_at_call 10; (with_reducible refine (kAt _).mono ?_); rintro en w5 ⟨rfl, hb5⟩; have S5 := (OnT.below (And.right (by with_reducible assumption)) hb5).fs))
      all_goals
        rename_i hHeld
        obtain ⟨_, hY⟩ := hHeld
        go_wp2_with fail
        go_ret
        exact ⟨rfl, hY.bl⟩
  · have eP : preS true = ⟨#[122, 122, 32, 49, 10, 35, 32, 72, 69, 76, 80, 32, 122, 32, 10]⟩ := rfl
    have eE : eofS = ⟨#[35, 32, 69, 79, 70]⟩ := rfl
    rw [eP, eE] at tok ter tf
    have hz0 : (⟨#[122, 122, 32, 49, 10, 35, 32, 72, 69, 76, 80, 32, 122, 32, 10]⟩ ++ S : ByteArray).size = 15 + S.size := by rw [ByteArray.size_append]; rfl
    have hz : (⟨#[122, 122, 32, 49, 10, 35, 32, 72, 69, 76, 80, 32, 122, 32, 10]⟩ ++ S ++ ⟨#[35, 32, 69, 79, 70]⟩ : ByteArray).size = 15 + S.size + 5 := by rw [ByteArray.size_append, hz0]; rfl
    have hpz : (⟨#[122, 122, 32, 49, 10, 35, 32, 72, 69, 76, 80, 32, 122, 32, 10]⟩ : ByteArray).size = 15 := rfl
    rw [hpz] at ter tf
    have l1 : ¬ 9223372036854775807 < 15 + S.size := by omega
    have l2 : ¬ 9223372036854775807 < 15 + S.size + 5 := by omega
    have l1' : ¬ 9223372036854775807 < S.size := by omega
    have l2' : ¬ 9223372036854775807 < S.size + 5 := by omega
    by_cases hneg : of_ < 0
    · have dn : decide (of_ < 0) = true := decide_eq_true hneg
      obtain ⟨L, e1, e2, e3⟩ := tok hneg
      have kR := fun W => read_okT (⟨#[122, 122, 32, 49, 10, 35, 32, 72, 69, 76, 80, 32, 122, 32, 10]⟩ ++ S ++ ⟨#[35, 32, 69, 79, 70]⟩) L W (by omega) e1 e2 e3
      clear tok ter tf e1 e2 e3 hneg hz hz0
      go_upto_region 10 with (go_at_call 9; (with_reducible refine (kR _).mono ?_); rintro en w3 ⟨⟨A, n, cc, rfl, hn⟩, hb3⟩)
      have hF := Blk.new w3 31 #[.int .i64 0, .int .i64 0, .int .i64 0, .int .i64 0]
      have f0 := (Blk.cell hF 0).trans rfl
      have hC4 := (hC.below hb3 (Blk.lt hC)).alloc (.cells #[.int .i64 0, .int .i64 0, .int .i64 0, .int .i64 0] 31)
      have c4 := (Blk.cell hC4 k).trans ok
      have hb4 := bl_alloc (bl_any hbl hb3) (.cells #[.int .i64 0, .int .i64 0, .int .i64 0, .int .i64 0] 31)
      have g1 : decide ((1 : Int) ≤ (n : Int)) = true := decide_eq_true (by omega)
      have g1n : decide (1 ≤ n) = true := decide_eq_true hn
      generalize w3.alloc (.cells #[.int .i64 0, .int .i64 0, .int .i64 0, .int .i64 0] 31) = W4 at *
      clear kR cA cC
      go_wp2_with fail
      go_ret
      exact ⟨rfl, hb4⟩
    · have dn : decide (of_ < 0) = false := decide_eq_false hneg
      obtain ⟨on, rfl⟩ : ∃ on : Nat, of_ = (on : Int) := ⟨of_.toNat, by omega⟩
      have e1 := ter hneg
      obtain ⟨u1, u2, u3⟩ := tf hneg
      simp only [Int.toNat_natCast] at e1 u1 u2 u3
      have kR := fun W => read_errT (⟨#[122, 122, 32, 49, 10, 35, 32, 72, 69, 76, 80, 32, 122, 32, 10]⟩ ++ S ++ ⟨#[35, 32, 69, 79, 70]⟩) 13 (15 + on) W (by omega) e1
      simp only [Int.cast_ofNat_Int, u1, u2, u3] at kR
      have eo : ((15 + on : Nat) : Int) = (15 : Int) + (on : Int) := by omega
      rw [eo] at kR
      have wz : IntKind.i64.wrap ((15 : Int) + (on : Int)) = (15 : Int) + (on : Int) := IntWalk.i64_in _ (by omega)
      have kAt := fun W => spAt_any 13 (⟨#[122, 122, 32, 49, 10, 35, 32, 72, 69, 76, 80, 32, 122, 32, 10]⟩ ++ S) ((15 : Int) + (on : Int)) W (by omega)
      clear tok ter tf e1 hneg hz hz0 u1 u2 u3
      go_upto_region 10 with (go_at_call 9; (with_reducible refine (kR _).mono ?_); rintro en w3 ⟨rfl, hb3⟩)
      have hOn : OnT w (w3.alloc (.cells #[.int .i64 13, .int .i64 (fltO 13 (⟨#[122, 122, 32, 49, 10, 35, 32, 72, 69, 76, 80, 32, 122, 32, 10]⟩ ++ S) ((15 : Int) + (on : Int))), .int .i64 (fltL 13 (⟨#[122, 122, 32, 49, 10, 35, 32, 72, 69, 76, 80, 32, 122, 32, 10]⟩ ++ S) ((15 : Int) + (on : Int))), .int .i64 (fltC 13 (⟨#[122, 122, 32, 49, 10, 35, 32, 72, 69, 76, 80, 32, 122, 32, 10]⟩ ++ S) ((15 : Int) + (on : Int)))] 31)) w3.heap.size b k (fltO 13 (⟨#[122, 122, 32, 49, 10, 35, 32, 72, 69, 76, 80, 32, 122, 32, 10]⟩ ++ S) ((15 : Int) + (on : Int))) (fltL 13 (⟨#[122, 122, 32, 49, 10, 35, 32, 72, 69, 76, 80, 32, 122, 32, 10]⟩ ++ S) ((15 : Int) + (on : Int))) (fltC 13 (⟨#[122, 122, 32, 49, 10, 35, 32, 72, 69, 76, 80, 32, 122, 32, 10]⟩ ++ S) ((15 : Int) + (on : Int))) S (on : Int) :=
        ⟨Blk.new w3 _ _, (hA.below hb3 (Blk.lt hA)).alloc _, (hC.below hb3 (Blk.lt hC)).alloc _, ak, ok, bl_alloc (bl_any hbl hb3) _⟩
      generalize w3.alloc (.cells #[.int .i64 13, .int .i64 (fltO 13 (⟨#[122, 122, 32, 49, 10, 35, 32, 72, 69, 76, 80, 32, 122, 32, 10]⟩ ++ S) ((15 : Int) + (on : Int))), .int .i64 (fltL 13 (⟨#[122, 122, 32, 49, 10, 35, 32, 72, 69, 76, 80, 32, 122, 32, 10]⟩ ++ S) ((15 : Int) + (on : Int))), .int .i64 (fltC 13 (⟨#[122, 122, 32, 49, 10, 35, 32, 72, 69, 76, 80, 32, 122, 32, 10]⟩ ++ S) ((15 : Int) + (on : Int)))] 31) = W4 at *
      generalize w3.heap.size = f at *
      clear hb3 kR cA cC
      generalize fltO 13 (⟨#[122, 122, 32, 49, 10, 35, 32, 72, 69, 76, 80, 32, 122, 32, 10]⟩ ++ S) ((15 : Int) + (on : Int)) = fo at *
      generalize fltL 13 (⟨#[122, 122, 32, 49, 10, 35, 32, 72, 69, 76, 80, 32, 122, 32, 10]⟩ ++ S) ((15 : Int) + (on : Int)) = fl at *
      generalize fltC 13 (⟨#[122, 122, 32, 49, 10, 35, 32, 72, 69, 76, 80, 32, 122, 32, 10]⟩ ++ S) ((15 : Int) + (on : Int)) = fc at *
      have c4 := hOn.fs.1.2.2.2.2.2
      go_upto_region 12 with (fail)
      go_region_held3 (fun w' => (w'.cell? ⟨f, 0, none⟩ = some (.int .i64 13) ∧ w'.cell? ⟨f, 1, none⟩ = some (.int .i64 fo) ∧ w'.cell? ⟨f, 2, none⟩ = some (.int .i64 fl) ∧ w'.cell? ⟨f, 3, none⟩ = some (.int .i64 fc) ∧ w'.cell? ⟨b, k, none⟩ = some (.string S) ∧ w'.cell? ⟨b + 1, k, none⟩ = some (.int .i64 (on : Int))) ∧ OnT w w' f b k fo fl fc S (on : Int)) (first | (with_reducible assumption) | (with_reducible exact hOn.drew.fs)) (first
        | (go_at_call 10; (with_reducible refine (kAt _).mono ?_); rintro en w5 ⟨rfl, hb5⟩; have S5 := (OnT.below (And.right (by with_reducible assumption)) hb5).fs))
      all_goals
        rename_i hHeld
        obtain ⟨_, hY⟩ := hHeld
        go_wp2_with fail
        go_ret
        exact ⟨rfl, hY.bl⟩
end
end Go.Proofs.YtcapbikelgcmmaaGreatDoor
