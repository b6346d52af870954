/- TenantPlays: a step is played on both. -/
import Derived.Test.YtjffagffjcbolaaRgL
import Derived.Test.YtjffagffjcbolaaOpenStep
import Derived.Deep.CutRange
import Derived.Deep.CutBlock
import Derived.Deep.RegionHeld3
namespace Go.Proofs.Ytjffagffjcbolaa
set_option linter.unusedVariables false
set_option linter.unusedSimpArgs false
open Go.RowKit
/-- The box of a step. -/
def BX (w : World) (bx : Nat) (X : VStep) : Prop := Blk w bx 33 #[.int .i64 X.kind, .string X.name, .int .i64 X.cfg.protos, .int .i64 X.cfg.bytes, .int .i64 X.cfg.points, .int .i64 X.cfg.store, .int .i64 X.cfg.mode, .int .i64 X.cfg.unit, .slice X.cfg.A X.cfg.rules.length X.cfg.c, .slice X.pA X.ps.length X.pc]
section
variable {w0 w w' : World} {p b q bx : Nat} {at_ : Int} {A : Option Addr} {c : Nat} {m : Bk} {R : List VTen} {X : VStep}
theorem BX.bel (h : BX w bx X) (k : Below w.heap.size w w') : BX w' bx X := Blk.below h k (Blk.lt h)
theorem BX.drew (h : BX w bx X) : BX w.drew bx X := h
theorem BX.book (hP : PS w0 w p b q at_ A c m R) (h : BX w bx X) (k : Aw [b] w w') : BX w' bx X := pbx hP h k
theorem BX.gate (hP : PS w0 w p b q at_ A c m R) (h : BX w bx X) (k : Aw [q] w w') : BX w' bx X := pgx (by decide) hP h k
theorem BX.fs (h : BX w bx X) : (w.cell? ⟨bx, 1, none⟩ = some (.string X.name) ∧ w.cell? ⟨bx, 2, none⟩ = some (.int .i64 X.cfg.protos) ∧ w.cell? ⟨bx, 3, none⟩ = some (.int .i64 X.cfg.bytes) ∧ w.cell? ⟨bx, 4, none⟩ = some (.int .i64 X.cfg.points) ∧ w.cell? ⟨bx, 5, none⟩ = some (.int .i64 X.cfg.store) ∧ w.cell? ⟨bx, 6, none⟩ = some (.int .i64 X.cfg.mode) ∧ w.cell? ⟨bx, 7, none⟩ = some (.int .i64 X.cfg.unit) ∧ w.cell? ⟨bx, 8, none⟩ = some (.slice X.cfg.A X.cfg.rules.length X.cfg.c) ∧ w.cell? ⟨bx, 9, none⟩ = some (.slice X.pA X.ps.length X.pc)) ∧ BX w bx X :=
  ⟨⟨(Blk.cell h 1).trans rfl, (Blk.cell h 2).trans rfl, (Blk.cell h 3).trans rfl, (Blk.cell h 4).trans rfl, (Blk.cell h 5).trans rfl, (Blk.cell h 6).trans rfl, (Blk.cell h 7).trans rfl, (Blk.cell h 8).trans rfl, (Blk.cell h 9).trans rfl⟩, h⟩
theorem BX.kind (h : BX w bx X) : w.cell? ⟨bx, 0, none⟩ = some (.int .i64 X.kind) := (Blk.cell h 0).trans rfl
theorem pgDropN (h : PS w0 w p b q at_ A c m R) (s : ByteArray) (hR : R.length ≤ 1000) (hf : ixN R s = -1) :
    Calls Try.prog 14 #[.pointer (some ⟨q, 0, none⟩), .string s] w fun e w' => e = .returned (.int .i64 18) ∧ PS w0 w' p b q at_ A c m R ∧ Below w.heap.size w w' :=
  (gdrop_none q at_ A c R s w h.gw hR hf).mono fun e w' ⟨h1, h2⟩ => by subst h2; exact ⟨h1, h, Below.refl _ _⟩
theorem pbMay (h : PS w0 w p b q at_ A c m R) (s : ByteArray) (hs : s.size ≤ 100) (B : Option Addr) (n k : Nat) (zs : List Int) (hl : IsRows intCell 1 w0 w0.heap.size B n zs) (hn : n ≤ 1000) (E : Nat) (hE : mayE m s.data.toList zs = E) :
    Calls Try.prog 15 #[.pointer (some ⟨p, 0, none⟩), .string s, .slice B n k] w fun e w' => e = .returned (.int .i64 (E : Nat)) ∧ PS w0 w' p b q at_ A c m R ∧ Below w.heap.size w w' :=
  (bmay_any p b m s B n k zs w h.bk (by unfold maxLen; omega) ((hl.below h.bl).more h.bl.size) (by omega)).mono fun e w' ⟨h1, h2⟩ => ⟨by rw [← hE]; exact h1, h.bel h2, h2⟩
/-- What the reference tells of formats. -/
def gmayE (R : List VTen) (s : ByteArray) (zs : List Int) : Nat := match R[(ixN R s).toNat]? with
  | some y => if 0 ≤ ixN R s then (if zs.any (notMay y.cfg.protos) then 17 else 0) else 18
  | none => 18
theorem pgMay (h : PS w0 w p b q at_ A c m R) (s : ByteArray) (hR : R.length ≤ 1000) (B : Option Addr) (n k : Nat) (zs : List Int) (hl : IsRows intCell 1 w0 w0.heap.size B n zs) (hn : n ≤ 1000) (E : Nat) (hE : gmayE R s zs = E) :
    Calls Try.prog 16 #[.pointer (some ⟨q, 0, none⟩), .string s, .slice B n k] w fun e w' => e = .returned (.int .i64 (E : Nat)) ∧ PS w0 w' p b q at_ A c m R ∧ Below w.heap.size w w' := by
  rcases ixN_cases R s with ⟨h1, h2⟩ | ⟨K, y, h1, hy, he, hK⟩
  · refine (gmay_none q at_ A c R s B n k w h.gw hR h1).mono fun e w' ⟨g1, g2⟩ => ⟨?_, h.bel g2, g2⟩
    have : gmayE R s zs = 18 := by unfold gmayE; rw [h1]; split <;> rfl
    rw [← hE, this]; exact g1
  · refine (gmay_some q at_ A c R s B n k zs w h.gw hR K y h1 hy ((hl.below h.bl).more h.bl.size) hn).mono fun e w' ⟨g1, g2⟩ => ⟨?_, h.bel g2, g2⟩
    have : gmayE R s zs = if zs.any (notMay y.cfg.protos) then 17 else 0 := by
      unfold gmayE
      rw [h1, Int.toNat_natCast, hy]
      simp only
      rw [if_pos (by omega)]
    rw [← hE, this]; exact g1
theorem Both.may (h : Both m R) (hu : UpKV m) (s : ByteArray) (zs : List Int) : mayE m s.data.toList zs = gmayE R s zs := by
  unfold mayE gmayE
  rcases h.has hu s with ⟨h1, h2, h3, _⟩ | ⟨h1, k, y, x, h2, h3, _, _, h5, h6⟩
  · rw [h1, h3, if_neg (by simp)]
    split
    · rw [if_neg (by decide)]
    · rfl
  · have e : lookB m s.data.toList = x := by unfold lookB; rw [h5]; rfl
    have e2 : (0:Int) ≤ (k:Int) := by omega
    rw [h1, h2, Int.toNat_natCast, h3, e]
    simp only [if_true, e2, h6.protos]
end
theorem fair_ok {w : World} {X : VCfg} (h : CfgHere w X) (hf : fairB X.rules = true) : CfgAt w w.heap.size X := by
  unfold fairB at hf
  rw [Bool.and_eq_true, List.all_eq_true, decide_eq_true_eq] at hf
  refine ⟨h.rows, fun r hr => ?_, by omega⟩
  have hh := h.each r hr
  have h1 := hf.1 r hr
  unfold fairOne at h1
  simp only [Bool.and_eq_true, decide_eq_true_eq] at h1
  have ml : maxLen = 9223372036854775807 := by decide
  have hi := hh.i.ok (by omega) (by omega) (by omega)
  exact ⟨hh.a, hi⟩
theorem put_len {R R' : List VTen} {s : ByteArray} {X : VCfg} (h : PutR R R' s X) : R'.length = R.length + 1 := by
  obtain ⟨j, y, h1, _, _, _, _, rfl⟩ := h
  rw [List.length_append, List.length_cons, List.length_take, List.length_drop]
  omega
theorem names_flat : ∀ (R : List VTen), (R.map (fun x => x.name.data.toList)).map encStr = (R.map VTen.name).flatMap strCell
  | [] => rfl
  | x :: R => by
    rw [List.map_cons, List.map_cons, names_flat R, List.map_cons, List.flatMap_cons]
    rfl
theorem look_cfg {w : World} {p b : Nat} {m : Bk} (h : BookAt w p b m) (s : ByteArray) : CfgAt w w.heap.size (lookB m s.data.toList) := by
  unfold lookB lookKV
  cases hf : m.find? (keyIs s.data.toList) with
  | none => exact ⟨IsRows.nil_, (by intro r hr; cases hr), Nat.zero_le _⟩
  | some y => exact h.cfg y (List.mem_of_find?_eq_some hf)
set_option maxRecDepth 100000 in
set_option maxHeartbeats 25600000 in
theorem plays29_any (A0 : Option Addr) (n cap : Nat) (xs : List VStep) (w : World) (hx : IsSteps w A0 n cap xs) :
    Calls Try.prog 3 #[.slice A0 n cap] w fun e w' => e = .returned (.bool true) ∧ Below w.heap.size w w' := by
  obtain ⟨hrw, hst, hcp1, hcp2⟩ := hx
  have hnl : n ≤ maxLen := Nat.le_trans hcp1 hcp2
  have HST := Lib.hid hst
  have HXL := Lib.hid hrw.1
  clear hst hcp1 hcp2
  unfold maxLen at hnl
  have kK := fun W => known29_any W
  go_enter Try.func3, Try.ntmps3
  by_cases h40 : 40 < n
  · have d1 : decide ((40 : Int) < (n : Int)) = true := decide_eq_true (by omega)
    have d2 : decide (40 < n) = true := decide_eq_true h40
    go_wp2_with (go_at_call 7; (with_reducible refine (kK _).mono ?_); rintro e w1 ⟨rfl, hb1⟩)
    go_ret
    exact ⟨rfl, hb1⟩
  have d1 : decide ((40 : Int) < (n : Int)) = false := decide_eq_false (by omega)
  have d2 : decide (40 < n) = false := decide_eq_false h40
  go_upto_region 6 with (first
    | (go_at_call 7; (with_reducible refine (kK _).mono ?_); rintro e w1 ⟨rfl, hb1⟩)
    | (go_at_call 8; (with_reducible refine (bnew_any _).mono ?_); rintro e w2 ⟨rfl, hbk, hb2⟩)
    | (go_at_call 9; (with_reducible refine (gnew_any _).mono ?_); rintro e w3 ⟨at_, rfl, hgw, hb3⟩))
  have hP3 : PS w w3 (w1.heap.size + 1) w1.heap.size w2.heap.size at_ none 0 [] [] := ⟨hbk.bel hb3, hgw, bl_any (bl_any hb1 hb2) hb3, hb1.size, Nat.le_trans hb1.size hb2.size⟩
  clear hbk hgw hb1 hb2 hb3 kK
  generalize w1.heap.size + 1 = p at *
  generalize w1.heap.size = b at *
  generalize w2.heap.size = q at *
  go_wp2_with fail
  go_loopw [5] (fun i wr => ∃ (k : Nat) (m : Bk) (R : List VTen) (A : Option Addr) (c : Nat), k ≤ n ∧ i = .int .i64 k ∧ PS w wr p b q at_ A c m R ∧ Hid (Both m R) ∧ R.length ≤ k) (fun i _ => n - (intOf i).toNat)
  case atStart => exact ⟨0, [], [], none, 0, by omega, rfl, hP3, Lib.hid Both.nil, Nat.le_refl _⟩
  case round =>
    obtain ⟨k, m, R, A, c, hk, rfl, hP, HBO, hRk⟩ := hrel
    clear hP3
    by_cases hlt : k < n
    rotate_left
    · have hdk : decide ((k : Int) < (n : Int)) = false := decide_eq_false (by omega)
      go_wp2_with fail
      go_ret
      exact ⟨rfl, hP.bl⟩
    have hdk : decide ((k : Int) < (n : Int)) = true := decide_eq_true (by omega)
    have hk0 : (0 : Int) ≤ k := by omega
    have hk1 : (k : Int) < (n : Int) := by omega
    obtain ⟨b0, off, rfl, hb0, hcs⟩ := ((hrw.below hP.bl).more hP.bl.size).2 (by omega)
    obtain ⟨X, hX⟩ : ∃ X, xs[k]? = some X := ⟨_, List.getElem?_eq_getElem (by have := HXL.out; omega)⟩
    have hXS := HST.out X (List.mem_of_getElem? hX)
    have e0 : wr.cell? ⟨b0, off + k * 10, none⟩ = some (.int .i64 X.kind) := hcs k X 0 _ hX rfl
    have e1 : wr.cell? ⟨b0, off + k * 10 + 1, none⟩ = some (.string X.name) := hcs k X 1 _ hX rfl
    have e2 : wr.cell? ⟨b0, off + k * 10 + 2, none⟩ = some (.int .i64 X.cfg.protos) := hcs k X 2 _ hX rfl
    have e3 : wr.cell? ⟨b0, off + k * 10 + 3, none⟩ = some (.int .i64 X.cfg.bytes) := hcs k X 3 _ hX rfl
    have e4 : wr.cell? ⟨b0, off + k * 10 + 4, none⟩ = some (.int .i64 X.cfg.points) := hcs k X 4 _ hX rfl
    have e5 : wr.cell? ⟨b0, off + k * 10 + 5, none⟩ = some (.int .i64 X.cfg.store) := hcs k X 5 _ hX rfl
    have e6 : wr.cell? ⟨b0, off + k * 10 + 6, none⟩ = some (.int .i64 X.cfg.mode) := hcs k X 6 _ hX rfl
    have e7 : wr.cell? ⟨b0, off + k * 10 + 7, none⟩ = some (.int .i64 X.cfg.unit) := hcs k X 7 _ hX rfl
    have e8 : wr.cell? ⟨b0, off + k * 10 + 8, none⟩ = some (.slice X.cfg.A X.cfg.rules.length X.cfg.c) := hcs k X 8 _ hX rfl
    have e9 : wr.cell? ⟨b0, off + k * 10 + 9, none⟩ = some (.slice X.pA X.ps.length X.pc) := hcs k X 9 _ hX rfl
    clear hcs hX
    have hBX : BX (wr.alloc (.cells #[.int .i64 X.kind, .string X.name, .int .i64 X.cfg.protos, .int .i64 X.cfg.bytes, .int .i64 X.cfg.points, .int .i64 X.cfg.store, .int .i64 X.cfg.mode, .int .i64 X.cfg.unit, .slice X.cfg.A X.cfg.rules.length X.cfg.c, .slice X.pA X.ps.length X.pc] 33)) wr.heap.size X := Blk.new wr _ _
    have hPx := hP.alloc (.cells #[.int .i64 X.kind, .string X.name, .int .i64 X.cfg.protos, .int .i64 X.cfg.bytes, .int .i64 X.cfg.points, .int .i64 X.cfg.store, .int .i64 X.cfg.mode, .int .i64 X.cfg.unit, .slice X.cfg.A X.cfg.rules.length X.cfg.c, .slice X.pA X.ps.length X.pc] 33)
    go_upto_region 10 with (fail)
    clear e0 e1 e2 e3 e4 e5 e6 e7 e8 e9 hP
    generalize wr.alloc (.cells #[.int .i64 X.kind, .string X.name, .int .i64 X.cfg.protos, .int .i64 X.cfg.bytes, .int .i64 X.cfg.points, .int .i64 X.cfg.store, .int .i64 X.cfg.mode, .int .i64 X.cfg.unit, .slice X.cfg.A X.cfg.rules.length X.cfg.c, .slice X.pA X.ps.length X.pc] 33) = wx at *
    generalize wr.heap.size = bx at *
    obtain ⟨⟨x1, x2, x3, x4, x5, x6, x7, x8, x9⟩, _⟩ := hBX.fs
    have hXP : IsRows intCell 1 w w.heap.size X.pA X.ps.length X.ps := hXS.row
    have hprot : -9223372036854775808 ≤ X.cfg.protos := hXS.cfg.protos
    have kFair := fair29_any X.cfg wx ((hXS.cfg.rows.below hPx.bl).more hPx.bl.size) (by have := hXS.cfg.len; unfold maxLen at this; exact this)
    have hpl := hXS.len
    unfold maxLen at hpl
    cases hfr : fairB X.cfg.rules
    · rw [hfr] at kFair
      clear hfr
      go_wp2_with (go_at_call 10; (with_reducible refine kFair.mono ?_); rintro e w4 ⟨rfl, hb4⟩)
      go_ret
      exact ⟨rfl, bl_any hPx.bl hb4⟩
    rw [hfr] at kFair
    have hXC : CfgAt w w.heap.size X.cfg := fair_ok hXS.cfg hfr
    clear hfr hXS
    by_cases hp8 : X.ps.length ≤ 8
    rotate_left
    · have dp : decide ((8 : Int) < (X.ps.length : Int)) = true := decide_eq_true (by omega)
      have dp2 : decide (8 < X.ps.length) = true := decide_eq_true (by omega)
      go_wp2_with (go_at_call 10; (with_reducible refine kFair.mono ?_); rintro e w4 ⟨rfl, hb4⟩; obtain ⟨⟨y1, y2, y3, y4, y5, y6, y7, y8, y9⟩, _⟩ := (hBX.bel hb4).fs)
      go_ret
      exact ⟨rfl, bl_any hPx.bl hb4⟩
    have dp : decide ((8 : Int) < (X.ps.length : Int)) = false := decide_eq_false (by omega)
    have dp2 : decide (8 < X.ps.length) = false := decide_eq_false (by omega)
    by_cases hs100 : X.name.size ≤ 100
    rotate_left
    · have ds : decide ((100 : Int) < (X.name.size : Int)) = true := decide_eq_true (by omega)
      have ds2 : decide (100 < X.name.size) = true := decide_eq_true (by omega)
      go_wp2_with (go_at_call 10; (with_reducible refine kFair.mono ?_); rintro e w4 ⟨rfl, hb4⟩; obtain ⟨⟨y1, y2, y3, y4, y5, y6, y7, y8, y9⟩, _⟩ := (hBX.bel hb4).fs)
      go_ret
      exact ⟨rfl, bl_any hPx.bl hb4⟩
    have ds : decide ((100 : Int) < (X.name.size : Int)) = false := decide_eq_false (by omega)
    have ds2 : decide (100 < X.name.size) = false := decide_eq_false (by omega)
    go_upto_block 2 with (go_at_call 10; (with_reducible refine kFair.mono ?_); rintro e w4 ⟨rfl, hb4⟩; have y0 := (hBX.bel hb4).kind; obtain ⟨⟨y1, y2, y3, y4, y5, y6, y7, y8, y9⟩, _⟩ := (hBX.bel hb4).fs)
    have hP4 := hPx.bel hb4
    have hB4 := hBX.bel hb4
    clear kFair hPx hBX hb4 x1 x2 x3 x4 x5 x6 x7 x8 x9 y1 y2 y3 y4 y5 y6 y7 y8 y9
    clear y0
    go_cut [7, 8] from 49 to 84 (fun v7 v8 wx => ∃ (E : Int) (m' : Bk) (R' : List VTen) (A' : Option Addr) (c' : Nat), v7 = .int .i64 E ∧ v8 = .int .i64 E ∧ PS w wx p b q at_ A' c' m' R' ∧ BX wx bx X ∧ Hid (Both m' R') ∧ R'.length ≤ k + 1)
    case first =>
      have hP0 := hP4.drew
      have hS0 := hB4.drew.fs
      have hml : m.length ≤ 40 := by rw [HBO.out.len]; omega
      have hup := Lib.hid hP4.bk.up
      cases z0 : (X.kind == 0)
      rotate_left
      · obtain ⟨E, hEb⟩ : ∃ E, addE m X.name.data.toList X.cfg = E := ⟨_, rfl⟩
        have hEg : gaddE R X.name X.cfg = E := by rw [← HBO.out.addE hup.out]; exact hEb
        go_upto_region 16 with fail
        by_cases hE0 : E = 0
        · subst hE0
          have HPUT : Hid (∀ d R', LikeC X.cfg d → PutR R R' X.name X.cfg → Hid (Both (putKV m X.name.data.toList d) R')) := Lib.hid (fun d R' hd hR' => Lib.hid (by
            obtain ⟨j, y, g1, g2, g3, g4, g5, rfl⟩ := hR'
            obtain ⟨_, _, hi, _⟩ := gaddE_zero hEg
            rcases HBO.out.has hup.out X.name with ⟨_, _, _, hn⟩ | ⟨_, K, _, _, hK, _⟩
            · exact HBO.out.put hn (c := d) g1 g2 g3 g4 (hd.trans g5)
            · omega))
          have HLEN : Hid (∀ R', PutR R R' X.name X.cfg → R'.length ≤ k + 1) := Lib.hid (fun R' h => by rw [put_len h]; omega)
          clear z0
          go_region_held3 (fun w' => (w'.cell? ⟨bx, 1, none⟩ = some (.string X.name) ∧ w'.cell? ⟨bx, 2, none⟩ = some (.int .i64 X.cfg.protos) ∧ w'.cell? ⟨bx, 3, none⟩ = some (.int .i64 X.cfg.bytes) ∧ w'.cell? ⟨bx, 4, none⟩ = some (.int .i64 X.cfg.points) ∧ w'.cell? ⟨bx, 5, none⟩ = some (.int .i64 X.cfg.store) ∧ w'.cell? ⟨bx, 6, none⟩ = some (.int .i64 X.cfg.mode) ∧ w'.cell? ⟨bx, 7, none⟩ = some (.int .i64 X.cfg.unit) ∧ w'.cell? ⟨bx, 8, none⟩ = some (.slice X.cfg.A X.cfg.rules.length X.cfg.c) ∧ w'.cell? ⟨bx, 9, none⟩ = some (.slice X.pA X.ps.length X.pc)) ∧ BX w' bx X) (first | (with_reducible assumption) | (with_reducible exact hS0) | (with_reducible exact (BX.drew (And.right (by with_reducible assumption))).fs)) (first
            | (go_at_call 11; (with_reducible refine (pbAdd0 (by first | exact hP6 | exact hP0) X.name X.cfg hs100 hXC (by omega) hEb).mono ?_); rintro e w5 ⟨rfl, ⟨d, hd, hP5⟩, hA5⟩; have S5 := (BX.fs (BX.book (by first | exact hP6 | exact hP0) (And.right (by with_reducible assumption)) hA5)))
            | (go_at_call 12; (with_reducible refine (pgAdd0 (by first | exact hP5 | exact hP0) X.name X.cfg hs100 hXC hprot hEg).mono ?_); rintro e w6 ⟨rfl, ⟨A6, c6, R6, hR6, hP6⟩, hA6⟩; have S6 := (BX.fs (BX.gate (by first | exact hP5 | exact hP0) (And.right (by with_reducible assumption)) hA6))))
          all_goals
            rename_i hHeld
            obtain ⟨_, hY⟩ := hHeld
            go_wp2_with fail
            go_meet
            first
              | exact ⟨_, _, R6, A6, c6, rfl, rfl, hP6, hY, HPUT.out _ _ hd hR6, HLEN.out _ hR6⟩
              | exact ⟨_, _, R6, A6, c6, rfl, rfl, hP5, hY, HPUT.out _ _ hd hR6, HLEN.out _ hR6⟩
        · clear z0
          go_region_held3 (fun w' => (w'.cell? ⟨bx, 1, none⟩ = some (.string X.name) ∧ w'.cell? ⟨bx, 2, none⟩ = some (.int .i64 X.cfg.protos) ∧ w'.cell? ⟨bx, 3, none⟩ = some (.int .i64 X.cfg.bytes) ∧ w'.cell? ⟨bx, 4, none⟩ = some (.int .i64 X.cfg.points) ∧ w'.cell? ⟨bx, 5, none⟩ = some (.int .i64 X.cfg.store) ∧ w'.cell? ⟨bx, 6, none⟩ = some (.int .i64 X.cfg.mode) ∧ w'.cell? ⟨bx, 7, none⟩ = some (.int .i64 X.cfg.unit) ∧ w'.cell? ⟨bx, 8, none⟩ = some (.slice X.cfg.A X.cfg.rules.length X.cfg.c) ∧ w'.cell? ⟨bx, 9, none⟩ = some (.slice X.pA X.ps.length X.pc)) ∧ BX w' bx X) (first | (with_reducible assumption) | (with_reducible exact hS0) | (with_reducible exact (BX.drew (And.right (by with_reducible assumption))).fs)) (first
            | (go_at_call 11; (with_reducible refine (pbAdd (by first | exact hP6 | exact hP0) X.name X.cfg hs100 hXC (by omega) E hEb hE0).mono ?_); rintro e w5 ⟨rfl, hP5, hA5⟩; have S5 := (BX.fs (BX.book (by first | exact hP6 | exact hP0) (And.right (by with_reducible assumption)) hA5)))
            | (go_at_call 12; (with_reducible refine (pgAdd (by first | exact hP5 | exact hP0) X.name X.cfg hs100 hXC hprot (by omega) E hEg hE0).mono ?_); rintro e w6 ⟨rfl, hP6, hb6⟩; have S6 := (BX.fs (BX.bel (And.right (by with_reducible assumption)) hb6))))
          all_goals
            rename_i hHeld
            obtain ⟨_, hY⟩ := hHeld
            go_wp2_with fail
            go_meet
            first
              | exact ⟨_, m, R, A, c, rfl, rfl, hP6, hY, HBO, by omega⟩
              | exact ⟨_, m, R, A, c, rfl, rfl, hP5, hY, HBO, by omega⟩
      cases z1 : (X.kind == 1)
      rotate_left
      · rcases HBO.out.has hup.out X.name with ⟨hhas, _, hix, _⟩ | ⟨hhas, K, y, _, hix, hy, hKR, hyn, _, _⟩
        · have hdn := delKV_none hhas
          go_upto_region 18 with fail
          clear z0 z1
          go_region_held3 (fun w' => (w'.cell? ⟨bx, 1, none⟩ = some (.string X.name) ∧ w'.cell? ⟨bx, 2, none⟩ = some (.int .i64 X.cfg.protos) ∧ w'.cell? ⟨bx, 3, none⟩ = some (.int .i64 X.cfg.bytes) ∧ w'.cell? ⟨bx, 4, none⟩ = some (.int .i64 X.cfg.points) ∧ w'.cell? ⟨bx, 5, none⟩ = some (.int .i64 X.cfg.store) ∧ w'.cell? ⟨bx, 6, none⟩ = some (.int .i64 X.cfg.mode) ∧ w'.cell? ⟨bx, 7, none⟩ = some (.int .i64 X.cfg.unit) ∧ w'.cell? ⟨bx, 8, none⟩ = some (.slice X.cfg.A X.cfg.rules.length X.cfg.c) ∧ w'.cell? ⟨bx, 9, none⟩ = some (.slice X.pA X.ps.length X.pc)) ∧ BX w' bx X) (first | (with_reducible assumption) | (with_reducible exact hS0) | (with_reducible exact (BX.drew (And.right (by with_reducible assumption))).fs)) (first
            | (go_at_call 13; (with_reducible refine (pbDrop (by first | exact hP6 | exact hP0) X.name hs100 false hhas).mono ?_); rintro e w5 ⟨rfl, hP5, hA5⟩; rw [hdn] at hP5; have S5 := (BX.fs (BX.book (by first | exact hP6 | exact hP0) (And.right (by with_reducible assumption)) hA5)))
            | (go_at_call 14; (with_reducible refine (pgDropN (by first | exact hP5 | exact hP0) X.name (by omega) hix).mono ?_); rintro e w6 ⟨rfl, hP6, hb6⟩; have S6 := (BX.fs (BX.bel (And.right (by with_reducible assumption)) hb6))))
          all_goals
            rename_i hHeld
            obtain ⟨_, hY⟩ := hHeld
            go_wp2_with fail
            go_meet
            first
              | exact ⟨_, m, R, A, c, rfl, rfl, hP6, hY, HBO, by omega⟩
              | exact ⟨_, m, R, A, c, rfl, rfl, hP5, hY, HBO, by omega⟩
        · have HDEL : Hid (Both (delKV m X.name.data.toList) (R.take K ++ R.drop (K + 1))) := Lib.hid (HBO.out.del hup.out hy hyn)
          have HDLEN : Hid ((R.take K ++ R.drop (K + 1)).length ≤ k + 1) := Lib.hid (by rw [List.length_append, List.length_take, List.length_drop]; omega)
          clear hy hyn
          go_upto_region 18 with fail
          clear z0 z1
          go_region_held3 (fun w' => (w'.cell? ⟨bx, 1, none⟩ = some (.string X.name) ∧ w'.cell? ⟨bx, 2, none⟩ = some (.int .i64 X.cfg.protos) ∧ w'.cell? ⟨bx, 3, none⟩ = some (.int .i64 X.cfg.bytes) ∧ w'.cell? ⟨bx, 4, none⟩ = some (.int .i64 X.cfg.points) ∧ w'.cell? ⟨bx, 5, none⟩ = some (.int .i64 X.cfg.store) ∧ w'.cell? ⟨bx, 6, none⟩ = some (.int .i64 X.cfg.mode) ∧ w'.cell? ⟨bx, 7, none⟩ = some (.int .i64 X.cfg.unit) ∧ w'.cell? ⟨bx, 8, none⟩ = some (.slice X.cfg.A X.cfg.rules.length X.cfg.c) ∧ w'.cell? ⟨bx, 9, none⟩ = some (.slice X.pA X.ps.length X.pc)) ∧ BX w' bx X) (first | (with_reducible assumption) | (with_reducible exact hS0) | (with_reducible exact (BX.drew (And.right (by with_reducible assumption))).fs)) (first
            | (go_at_call 13; (with_reducible refine (pbDrop (by first | exact hP6 | exact hP0) X.name hs100 true hhas).mono ?_); rintro e w5 ⟨rfl, hP5, hA5⟩; have S5 := (BX.fs (BX.book (by first | exact hP6 | exact hP0) (And.right (by with_reducible assumption)) hA5)))
            | (go_at_call 14; (with_reducible refine (pgDrop (by first | exact hP5 | exact hP0) X.name (by omega) K hix hKR).mono ?_); rintro e w6 ⟨rfl, ⟨A6, c6, hP6⟩, hA6⟩; have S6 := (BX.fs (BX.gate (by first | exact hP5 | exact hP0) (And.right (by with_reducible assumption)) hA6))))
          all_goals
            rename_i hHeld
            obtain ⟨_, hY⟩ := hHeld
            go_wp2_with fail
            go_meet
            first
              | exact ⟨_, _, _, A6, c6, rfl, rfl, hP6, hY, HDEL, HDLEN.out⟩
              | exact ⟨_, _, _, A6, c6, rfl, rfl, hP5, hY, HDEL, HDLEN.out⟩
      · obtain ⟨E, hEb⟩ : ∃ E, mayE m X.name.data.toList X.ps = E := ⟨_, rfl⟩
        have hEg : gmayE R X.name X.ps = E := by rw [← HBO.out.may hup.out]; exact hEb
        go_upto_region 14 with fail
        clear z0 z1
        go_region_held3 (fun w' => (w'.cell? ⟨bx, 1, none⟩ = some (.string X.name) ∧ w'.cell? ⟨bx, 2, none⟩ = some (.int .i64 X.cfg.protos) ∧ w'.cell? ⟨bx, 3, none⟩ = some (.int .i64 X.cfg.bytes) ∧ w'.cell? ⟨bx, 4, none⟩ = some (.int .i64 X.cfg.points) ∧ w'.cell? ⟨bx, 5, none⟩ = some (.int .i64 X.cfg.store) ∧ w'.cell? ⟨bx, 6, none⟩ = some (.int .i64 X.cfg.mode) ∧ w'.cell? ⟨bx, 7, none⟩ = some (.int .i64 X.cfg.unit) ∧ w'.cell? ⟨bx, 8, none⟩ = some (.slice X.cfg.A X.cfg.rules.length X.cfg.c) ∧ w'.cell? ⟨bx, 9, none⟩ = some (.slice X.pA X.ps.length X.pc)) ∧ BX w' bx X) (first | (with_reducible assumption) | (with_reducible exact hS0) | (with_reducible exact (BX.drew (And.right (by with_reducible assumption))).fs)) (first
          | (go_at_call 15; (with_reducible refine (pbMay (by first | exact hP6 | exact hP0) X.name hs100 X.pA X.ps.length X.pc X.ps hXP (by omega) E hEb).mono ?_); rintro e w5 ⟨rfl, hP5, hb5⟩; have S5 := (BX.fs (BX.bel (And.right (by with_reducible assumption)) hb5)))
          | (go_at_call 16; (with_reducible refine (pgMay (by first | exact hP5 | exact hP0) X.name (by omega) X.pA X.ps.length X.pc X.ps hXP (by omega) E hEg).mono ?_); rintro e w6 ⟨rfl, hP6, hb6⟩; have S6 := (BX.fs (BX.bel (And.right (by with_reducible assumption)) hb6))))
        all_goals
          rename_i hHeld
          obtain ⟨_, hY⟩ := hHeld
          go_wp2_with fail
          go_meet
          first
            | exact ⟨_, m, R, A, c, rfl, rfl, hP6, hY, HBO, by omega⟩
            | exact ⟨_, m, R, A, c, rfl, rfl, hP5, hY, HBO, by omega⟩
    case rest =>
      clear HBO hRk hP4 hB4
      obtain ⟨E, m2, R2, A2, c2, rfl, rfl, hP, hB, HB2, hR2⟩ := hcut
      have HLN := Lib.hid HB2.out.len
      have kN := bnames_any p b m2 wc hP.bk (by have := HLN.out; omega)
      rw [HLN.out, HB2.out.keys, names_flat] at kN
      go_upto_region 20 with (go_at_call 17; (with_reducible refine kN.mono ?_); rintro e w5 ⟨⟨v, rfl, hown⟩, hb5⟩; obtain ⟨lA, lc, rfl⟩ := own_form hown)
      have hNR : IsRows strCell 1 w5 w5.heap.size lA R2.length (R2.map VTen.name) := own_isRows (f := strCell) (fun _ => rfl) hown (by simp)
      have hP5 := hP.bel hb5
      have hB5 := hB.bel hb5
      have hup := Lib.hid hP5.bk.up
      have hlc := look_cfg hP5.bk X.name
      clear kN hown hP hB hb5
      obtain ⟨⟨x1, x2, x3, x4, x5, x6, x7, x8, x9⟩, _⟩ := hB5.fs
      have hmx : X.name.size ≤ maxLen := by unfold maxLen; omega
      rcases HB2.out.has hup.out X.name with ⟨hhas, hlook, hix, _⟩ | ⟨hhas, K, y, xx, hix, hy, hKR, hyn, hlook, hlk⟩
      · have hlb : lookB m2 X.name.data.toList = cfg0 := by unfold lookB; rw [hlook]; rfl
        have kG : Calls Try.prog 18 #[.pointer (some ⟨p, 0, none⟩), .string X.name] w5 fun e w' => (∃ A c qs, e = .returned (.tuple #[.agg #[.int .i64 0, .int .i64 0, .int .i64 0, .int .i64 0, .int .i64 0, .int .i64 0, .slice A 0 c], .bool false]) ∧ qs.map VRule.rule = ([] : List VRule).map VRule.rule ∧ OwnRules w5.heap.size w' (.slice A 0 c) qs) ∧ Below w5.heap.size w5 w' := bget_any p b m2 X.name w5 hP5.bk hmx cfg0 hlb false hhas
        clear hlook hlb hhas hlc
        go_upto_region 21 with (go_at_call 18; (with_reducible refine kG.mono ?_); rintro e w6 ⟨⟨A9, c9, qs, rfl, hQ, hO⟩, hb6⟩)
        have HC1 : Hid (∀ W', Below w6.heap.size w6 W' → CfgAt W' W'.heap.size ⟨0, 0, 0, 0, 0, 0, A9, c9, []⟩) := Lib.hid (fun W' _ => ⟨IsRows.nil_, by intro r hr; (cases hr), Nat.zero_le _⟩)
        clear hQ hO kG
        have hcb := Blk.new w6 30 #[.int .i64 0, .int .i64 0, .int .i64 0, .int .i64 0, .int .i64 0, .int .i64 0, .slice A9 0 c9]
        have hP7 := (hP5.bel hb6).alloc (.cells #[.int .i64 0, .int .i64 0, .int .i64 0, .int .i64 0, .int .i64 0, .int .i64 0, .slice A9 0 c9] 30)
        have hB7 := (hB5.bel hb6).bel ((Below.refl _ _).alloc (Nat.le_refl _) (.cells #[.int .i64 0, .int .i64 0, .int .i64 0, .int .i64 0, .int .i64 0, .int .i64 0, .slice A9 0 c9] 30))
        have hN7 := (hNR.bel hb6).bel ((Below.refl w6.heap.size w6).alloc (Nat.le_refl _) (.cells #[.int .i64 0, .int .i64 0, .int .i64 0, .int .i64 0, .int .i64 0, .int .i64 0, .slice A9 0 c9] 30))
        have hb67 : Below w6.heap.size w6 (w6.alloc (.cells #[.int .i64 0, .int .i64 0, .int .i64 0, .int .i64 0, .int .i64 0, .int .i64 0, .slice A9 0 c9] 30)) := bl_alloc (Below.refl _ _) _
        clear x1 x2 x3 x4 x5 x6 x7 x8 x9 hP5 hB5 hNR hb6
        generalize w6.alloc (.cells #[.int .i64 0, .int .i64 0, .int .i64 0, .int .i64 0, .int .i64 0, .int .i64 0, .slice A9 0 c9] 30) = W7 at *
        generalize hcbn : w6.heap.size = cb at *
        have kF := gfind_any q at_ A2 c2 R2 X.name W7 hP7.gw (by omega)
        rw [hix] at kF
        clear hix
        obtain ⟨⟨x1, x2, x3, x4, x5, x6, x7, x8, x9⟩, _⟩ := hB7.fs
        go_upto_region 22 with (go_at_call 19; (with_reducible refine kF.mono ?_); rintro e w8 ⟨rfl, hw8⟩; rw [hw8]; clear hw8 w8)
        clear kF
        have hgb := hP7.gw.blk
        have g0 := (Blk.cell hgb 0).trans rfl
        have hlq := Blk.lt hgb
        have hlx := Blk.lt hB7
        have hlb := Blk.lt hcb
        have c0 := (Blk.cell hcb 0).trans rfl; have c1 := (Blk.cell hcb 1).trans rfl; have c2' := (Blk.cell hcb 2).trans rfl; have c3 := (Blk.cell hcb 3).trans rfl; have c4 := (Blk.cell hcb 4).trans rfl; have c5 := (Blk.cell hcb 5).trans rfl; have c6 := (Blk.cell hcb 6).trans rfl
        have hKd : decide ((0 : Int) ≤ -1) = false := by decide
        have mkS : ∀ W', Below W7.heap.size W7 W' → (W'.cell? ⟨bx, 2, none⟩ = some (.int .i64 X.cfg.protos) ∧ W'.cell? ⟨bx, 3, none⟩ = some (.int .i64 X.cfg.bytes) ∧ W'.cell? ⟨bx, 4, none⟩ = some (.int .i64 X.cfg.points) ∧ W'.cell? ⟨bx, 5, none⟩ = some (.int .i64 X.cfg.store) ∧ W'.cell? ⟨bx, 6, none⟩ = some (.int .i64 X.cfg.mode) ∧ W'.cell? ⟨bx, 7, none⟩ = some (.int .i64 X.cfg.unit) ∧ W'.cell? ⟨bx, 8, none⟩ = some (.slice X.cfg.A X.cfg.rules.length X.cfg.c) ∧ W'.cell? ⟨q, 0, none⟩ = some (.slice A2 R2.length c2) ∧ W'.cell? ⟨cb, 0, none⟩ = some (.int .i64 0) ∧ W'.cell? ⟨cb, 1, none⟩ = some (.int .i64 0) ∧ W'.cell? ⟨cb, 2, none⟩ = some (.int .i64 0) ∧ W'.cell? ⟨cb, 3, none⟩ = some (.int .i64 0) ∧ W'.cell? ⟨cb, 4, none⟩ = some (.int .i64 0) ∧ W'.cell? ⟨cb, 5, none⟩ = some (.int .i64 0) ∧ W'.cell? ⟨cb, 6, none⟩ = some (.slice A9 0 c9)) ∧ Below W7.heap.size W7 W' := fun W' hb' =>
          ⟨⟨(hb'.cell (p := ⟨bx, 2, none⟩) hlx).trans x2, (hb'.cell (p := ⟨bx, 3, none⟩) hlx).trans x3, (hb'.cell (p := ⟨bx, 4, none⟩) hlx).trans x4, (hb'.cell (p := ⟨bx, 5, none⟩) hlx).trans x5, (hb'.cell (p := ⟨bx, 6, none⟩) hlx).trans x6, (hb'.cell (p := ⟨bx, 7, none⟩) hlx).trans x7, (hb'.cell (p := ⟨bx, 8, none⟩) hlx).trans x8, (hb'.cell (p := ⟨q, 0, none⟩) hlq).trans g0, (hb'.cell (p := ⟨cb, 0, none⟩) hlb).trans c0, (hb'.cell (p := ⟨cb, 1, none⟩) hlb).trans c1, (hb'.cell (p := ⟨cb, 2, none⟩) hlb).trans c2', (hb'.cell (p := ⟨cb, 3, none⟩) hlb).trans c3, (hb'.cell (p := ⟨cb, 4, none⟩) hlb).trans c4, (hb'.cell (p := ⟨cb, 5, none⟩) hlb).trans c5, (hb'.cell (p := ⟨cb, 6, none⟩) hlb).trans c6⟩, hb'⟩
        have hS0 := Below.refl W7.heap.size W7
        have HM := Lib.hid mkS
        have kC := fun W' (hb : Below W7.heap.size W7 W') => check_any X.cfg W' ((hP7.own hXC).bel hb)
        have kR := fun W' (hb : Below W7.heap.size W7 W') => rcheck_any X.cfg W' ((hP7.own hXC).bel hb) hprot
        have kS : ∀ W', Below W7.heap.size W7 W' → Calls Try.prog 22 #[.agg #[.int .i64 0, .int .i64 0, .int .i64 0, .int .i64 0, .int .i64 0, .int .i64 0, .slice A9 0 c9], .agg #[.int .i64 0, .int .i64 0, .int .i64 0, .int .i64 0, .int .i64 0, .int .i64 0, .slice none 0 0]] W' fun e w' => e = .returned (.bool true) ∧ Below W'.heap.size W' w' := fun W' (hb : Below W7.heap.size W7 W') => rsame_any 0 0 0 0 0 0 [] [] A9 none c9 0 W' (HC1.out W' (hb67.trans (hb.mono (by have := hb67.size; omega)))) ⟨IsRows.nil_, by intro r hr; (cases hr), Nat.zero_le _⟩ rfl
        clear mkS x1 x2 x3 x4 x5 x6 x7 x8 x9 g0 c0 c1 c2' c3 c4 c5 c6
        refine wp_region_held_drew (S := (fun w' => (w'.cell? ⟨bx, 2, none⟩ = some (.int .i64 X.cfg.protos) ∧ w'.cell? ⟨bx, 3, none⟩ = some (.int .i64 X.cfg.bytes) ∧ w'.cell? ⟨bx, 4, none⟩ = some (.int .i64 X.cfg.points) ∧ w'.cell? ⟨bx, 5, none⟩ = some (.int .i64 X.cfg.store) ∧ w'.cell? ⟨bx, 6, none⟩ = some (.int .i64 X.cfg.mode) ∧ w'.cell? ⟨bx, 7, none⟩ = some (.int .i64 X.cfg.unit) ∧ w'.cell? ⟨bx, 8, none⟩ = some (.slice X.cfg.A X.cfg.rules.length X.cfg.c) ∧ w'.cell? ⟨q, 0, none⟩ = some (.slice A2 R2.length c2) ∧ w'.cell? ⟨cb, 0, none⟩ = some (.int .i64 0) ∧ w'.cell? ⟨cb, 1, none⟩ = some (.int .i64 0) ∧ w'.cell? ⟨cb, 2, none⟩ = some (.int .i64 0) ∧ w'.cell? ⟨cb, 3, none⟩ = some (.int .i64 0) ∧ w'.cell? ⟨cb, 4, none⟩ = some (.int .i64 0) ∧ w'.cell? ⟨cb, 5, none⟩ = some (.int .i64 0) ∧ w'.cell? ⟨cb, 6, none⟩ = some (.slice A9 0 c9)) ∧ Below W7.heap.size W7 w')) (by kernel_rfl) ?_ (fun hHeld0 => ?_)
        · (try dsimp only); (first | assumption | (refine HM.out _ ?_; first | assumption | exact And.right (by assumption) | exact (Below.refl _ _).drew))
        refine wpAnyH_take (i := 0) (oi := _) (v := ?_) rfl (by kernel_rfl) (by kernel_rfl) (by kernel_rfl) (fun _ _ _ h => h) (Or.inl ⟨by rfl, ?_⟩) (by assumption) ?_
        rotate_left
        focus ((intro w hSw; (try dsimp only at hSw); go_simp; try with_reducible rfl); done)
        (try simp only [Act.put, List.setIfInBounds_toArray, List.set_cons_zero, List.set_cons_succ, List.getElem_toArray, List.getElem_cons_zero, List.getElem_cons_succ])
        refine wpAnyH_take (i := 1) (oi := _) (v := ?_) rfl (by kernel_rfl) (by kernel_rfl) (by kernel_rfl) (fun _ _ _ h => h) (Or.inl ⟨by rfl, ?_⟩) (by assumption) ?_
        rotate_left
        focus ((intro w hSw; (try dsimp only at hSw); go_simp; try with_reducible rfl); done)
        (try simp only [Act.put, List.setIfInBounds_toArray, List.set_cons_zero, List.set_cons_succ, List.getElem_toArray, List.getElem_cons_zero, List.getElem_cons_succ])
        refine wpAnyH_take (i := 2) (oi := _) (v := ?_) rfl (by kernel_rfl) (by kernel_rfl) (by kernel_rfl) (fun _ _ _ h => h) (Or.inl ⟨by rfl, ?_⟩) (by assumption) ?_
        rotate_left
        focus ((intro w hSw; (try dsimp only at hSw); go_simp; try with_reducible rfl); done)
        (try simp only [Act.put, List.setIfInBounds_toArray, List.set_cons_zero, List.set_cons_succ, List.getElem_toArray, List.getElem_cons_zero, List.getElem_cons_succ])
        refine wpAnyH_take (i := 3) (oi := _) (v := ?_) rfl (by kernel_rfl) (by kernel_rfl) (by kernel_rfl) (fun _ _ _ h => h) (Or.inl ⟨by rfl, ?_⟩) (by assumption) ?_
        rotate_left
        focus ((intro w hSw; (try dsimp only at hSw); go_simp; try with_reducible rfl); done)
        (try simp only [Act.put, List.setIfInBounds_toArray, List.set_cons_zero, List.set_cons_succ, List.getElem_toArray, List.getElem_cons_zero, List.getElem_cons_succ])
        refine wpAnyH_take (i := 4) (oi := _) (v := ?_) rfl (by kernel_rfl) (by kernel_rfl) (by kernel_rfl) (fun _ _ _ h => h) (Or.inl ⟨by rfl, ?_⟩) (by assumption) ?_
        rotate_left
        focus ((intro w hSw; (try dsimp only at hSw); go_simp; try with_reducible rfl); done)
        (try simp only [Act.put, List.setIfInBounds_toArray, List.set_cons_zero, List.set_cons_succ, List.getElem_toArray, List.getElem_cons_zero, List.getElem_cons_succ])
        refine wpAnyH_take (i := 5) (oi := _) (v := ?_) rfl (by kernel_rfl) (by kernel_rfl) (by kernel_rfl) (fun _ _ _ h => h) (Or.inl ⟨by rfl, ?_⟩) (by assumption) ?_
        rotate_left
        focus ((intro w hSw; (try dsimp only at hSw); go_simp; try with_reducible rfl); done)
        (try simp only [Act.put, List.setIfInBounds_toArray, List.set_cons_zero, List.set_cons_succ, List.getElem_toArray, List.getElem_cons_zero, List.getElem_cons_succ])
        refine wpAnyH_take (i := 7) (oi := _) (v := ?_) rfl (by kernel_rfl) (by kernel_rfl) (by kernel_rfl) (fun _ _ _ h => h) (Or.inl ⟨by rfl, ?_⟩) (by assumption) ?_
        rotate_left
        focus ((intro w hSw; (try dsimp only at hSw); go_simp; try with_reducible rfl); done)
        (try simp only [Act.put, List.setIfInBounds_toArray, List.set_cons_zero, List.set_cons_succ, List.getElem_toArray, List.getElem_cons_zero, List.getElem_cons_succ])
        refine wpAnyH_take (i := 8) (oi := _) (v := ?_) rfl (by kernel_rfl) (by kernel_rfl) (by kernel_rfl) (fun _ _ _ h => h) (Or.inl ⟨by rfl, ?_⟩) (by assumption) ?_
        rotate_left
        focus ((intro w hSw; (try dsimp only at hSw); go_simp; try with_reducible rfl); done)
        (try simp only [Act.put, List.setIfInBounds_toArray, List.set_cons_zero, List.set_cons_succ, List.getElem_toArray, List.getElem_cons_zero, List.getElem_cons_succ])
        refine wpAnyH_ready (rs := [6]) (by kernel_rfl) (by simp) ?_
        refine AllReadyH.cons (o := _) rfl (fun K hK => ?_) AllReadyH.nil
        go_simp
        go_wp2_with (go_at_call 20; (with_reducible refine (kC _ (And.right (by assumption))).mono ?_); rintro e w8 ⟨rfl, hb8⟩; have S8 := HM.out w8 (bl_any (And.right (by assumption)) hb8))
        refine hK.out _ _ ?_ (fun hHeld1 => ?_)
        · (try dsimp only); (first | assumption | (refine HM.out _ ?_; first | assumption | exact And.right (by assumption) | exact (Below.refl _ _).drew))
        clear hK K
        (try simp only [Act.put, List.setIfInBounds_toArray, List.set_cons_zero, List.set_cons_succ, List.getElem_toArray, List.getElem_cons_zero, List.getElem_cons_succ])
        refine wpAnyH_ready (rs := [9]) (by kernel_rfl) (by simp) ?_
        refine AllReadyH.cons (o := _) rfl (fun K hK => ?_) AllReadyH.nil
        go_simp
        go_wp2_with (go_at_call 21; (with_reducible refine (kR _ (And.right (by assumption))).mono ?_); rintro e w9 ⟨rfl, hb9⟩; have S9 := HM.out w9 (bl_any (And.right (by assumption)) hb9))
        refine hK.out _ _ ?_ (fun hHeld2 => ?_)
        · (try dsimp only); (first | assumption | (refine HM.out _ ?_; first | assumption | exact And.right (by assumption) | exact (Below.refl _ _).drew))
        clear hK K
        (try simp only [Act.put, List.setIfInBounds_toArray, List.set_cons_zero, List.set_cons_succ, List.getElem_toArray, List.getElem_cons_zero, List.getElem_cons_succ])
        refine wpAnyH_take (i := 10) (oi := _) (v := ?_) rfl (by kernel_rfl) (by kernel_rfl) (by kernel_rfl) (fun _ _ _ h => h) (Or.inl ⟨by rfl, ?_⟩) (by assumption) ?_
        rotate_left
        focus ((intro w hSw; (try dsimp only at hSw); go_simp; try with_reducible rfl); done)
        (try simp only [Act.put, List.setIfInBounds_toArray, List.set_cons_zero, List.set_cons_succ, List.getElem_toArray, List.getElem_cons_zero, List.getElem_cons_succ])
        refine wpAnyH_take (i := 11) (oi := _) (v := ?_) rfl (by kernel_rfl) (by kernel_rfl) (by kernel_rfl) (fun _ _ _ h => h) (Or.inl ⟨by rfl, ?_⟩) (by assumption) ?_
        rotate_left
        focus ((intro w hSw; (try dsimp only at hSw); go_simp; try with_reducible rfl); done)
        (try simp only [Act.put, List.setIfInBounds_toArray, List.set_cons_zero, List.set_cons_succ, List.getElem_toArray, List.getElem_cons_zero, List.getElem_cons_succ])
        refine wpAnyH_take (i := 12) (oi := _) (v := ?_) rfl (by kernel_rfl) (by kernel_rfl) (by kernel_rfl) (fun _ _ _ h => h) (Or.inl ⟨by rfl, ?_⟩) (by assumption) ?_
        rotate_left
        focus ((intro w hSw; (try dsimp only at hSw); go_simp; try with_reducible rfl); done)
        (try simp only [Act.put, List.setIfInBounds_toArray, List.set_cons_zero, List.set_cons_succ, List.getElem_toArray, List.getElem_cons_zero, List.getElem_cons_succ])
        refine wpAnyH_take (i := 13) (oi := _) (v := ?_) rfl (by kernel_rfl) (by kernel_rfl) (by kernel_rfl) (fun _ _ _ h => h) (Or.inl ⟨by rfl, ?_⟩) (by assumption) ?_
        rotate_left
        focus ((intro w hSw; (try dsimp only at hSw); go_simp; try with_reducible rfl); done)
        (try simp only [Act.put, List.setIfInBounds_toArray, List.set_cons_zero, List.set_cons_succ, List.getElem_toArray, List.getElem_cons_zero, List.getElem_cons_succ])
        refine wpAnyH_take (i := 14) (oi := _) (v := ?_) rfl (by kernel_rfl) (by kernel_rfl) (by kernel_rfl) (fun _ _ _ h => h) (Or.inl ⟨by rfl, ?_⟩) (by assumption) ?_
        rotate_left
        focus ((intro w hSw; (try dsimp only at hSw); go_simp; try with_reducible rfl); done)
        (try simp only [Act.put, List.setIfInBounds_toArray, List.set_cons_zero, List.set_cons_succ, List.getElem_toArray, List.getElem_cons_zero, List.getElem_cons_succ])
        refine wpAnyH_take (i := 15) (oi := _) (v := ?_) rfl (by kernel_rfl) (by kernel_rfl) (by kernel_rfl) (fun _ _ _ h => h) (Or.inl ⟨by rfl, ?_⟩) (by assumption) ?_
        rotate_left
        focus ((intro w hSw; (try dsimp only at hSw); go_simp; try with_reducible rfl); done)
        (try simp only [Act.put, List.setIfInBounds_toArray, List.set_cons_zero, List.set_cons_succ, List.getElem_toArray, List.getElem_cons_zero, List.getElem_cons_succ])
        refine wpAnyH_ready (rs := [16]) (by kernel_rfl) (by simp) ?_
        refine AllReadyH.cons (o := _) rfl (fun K hK => ?_) AllReadyH.nil
        go_simp
        refine hK.out _ _ ?_ (fun hHeld3 => ?_)
        · (try dsimp only); (first | assumption | (refine HM.out _ ?_; first | assumption | exact And.right (by assumption) | exact (Below.refl _ _).drew))
        clear hK K
        (try simp only [Act.put, List.setIfInBounds_toArray, List.set_cons_zero, List.set_cons_succ, List.getElem_toArray, List.getElem_cons_zero, List.getElem_cons_succ])
        refine wpAnyH_take (i := 17) (oi := _) (v := ?_) rfl (by kernel_rfl) (by kernel_rfl) (by kernel_rfl) (fun _ _ _ h => h) (Or.inl ⟨by rfl, ?_⟩) (by assumption) ?_
        rotate_left
        focus ((intro w hSw; (try dsimp only at hSw); go_simp; try with_reducible rfl); done)
        (try simp only [Act.put, List.setIfInBounds_toArray, List.set_cons_zero, List.set_cons_succ, List.getElem_toArray, List.getElem_cons_zero, List.getElem_cons_succ])
        refine wpAnyH_take (i := 18) (oi := _) (v := ?_) rfl (by kernel_rfl) (by kernel_rfl) (by kernel_rfl) (fun _ _ _ h => h) (Or.inl ⟨by rfl, ?_⟩) (by assumption) ?_
        rotate_left
        focus ((intro w hSw; (try dsimp only at hSw); go_simp; try with_reducible rfl); done)
        (try simp only [Act.put, List.setIfInBounds_toArray, List.set_cons_zero, List.set_cons_succ, List.getElem_toArray, List.getElem_cons_zero, List.getElem_cons_succ])
        refine wpAnyH_take (i := 19) (oi := _) (v := ?_) rfl (by kernel_rfl) (by kernel_rfl) (by kernel_rfl) (fun _ _ _ h => h) (Or.inl ⟨by rfl, ?_⟩) (by assumption) ?_
        rotate_left
        focus ((intro w hSw; (try dsimp only at hSw); go_simp; try with_reducible rfl); done)
        (try simp only [Act.put, List.setIfInBounds_toArray, List.set_cons_zero, List.set_cons_succ, List.getElem_toArray, List.getElem_cons_zero, List.getElem_cons_succ])
        refine wpAnyH_take (i := 20) (oi := _) (v := ?_) rfl (by kernel_rfl) (by kernel_rfl) (by kernel_rfl) (fun _ _ _ h => h) (Or.inl ⟨by rfl, ?_⟩) (by assumption) ?_
        rotate_left
        focus ((intro w hSw; (try dsimp only at hSw); go_simp; try with_reducible rfl); done)
        (try simp only [Act.put, List.setIfInBounds_toArray, List.set_cons_zero, List.set_cons_succ, List.getElem_toArray, List.getElem_cons_zero, List.getElem_cons_succ])
        refine wpAnyH_take (i := 21) (oi := _) (v := ?_) rfl (by kernel_rfl) (by kernel_rfl) (by kernel_rfl) (fun _ _ _ h => h) (Or.inl ⟨by rfl, ?_⟩) (by assumption) ?_
        rotate_left
        focus ((intro w hSw; (try dsimp only at hSw); go_simp; try with_reducible rfl); done)
        (try simp only [Act.put, List.setIfInBounds_toArray, List.set_cons_zero, List.set_cons_succ, List.getElem_toArray, List.getElem_cons_zero, List.getElem_cons_succ])
        refine wpAnyH_take (i := 22) (oi := _) (v := ?_) rfl (by kernel_rfl) (by kernel_rfl) (by kernel_rfl) (fun _ _ _ h => h) (Or.inl ⟨by rfl, ?_⟩) (by assumption) ?_
        rotate_left
        focus ((intro w hSw; (try dsimp only at hSw); go_simp; try with_reducible rfl); done)
        (try simp only [Act.put, List.setIfInBounds_toArray, List.set_cons_zero, List.set_cons_succ, List.getElem_toArray, List.getElem_cons_zero, List.getElem_cons_succ])
        refine wpAnyH_take (i := 23) (oi := _) (v := ?_) rfl (by kernel_rfl) (by kernel_rfl) (by kernel_rfl) (fun _ _ _ h => h) (Or.inl ⟨by rfl, ?_⟩) (by assumption) ?_
        rotate_left
        focus ((intro w hSw; (try dsimp only at hSw); go_simp; try with_reducible rfl); done)
        (try simp only [Act.put, List.setIfInBounds_toArray, List.set_cons_zero, List.set_cons_succ, List.getElem_toArray, List.getElem_cons_zero, List.getElem_cons_succ])
        refine wpAnyH_take (i := 24) (oi := _) (v := ?_) rfl (by kernel_rfl) (by kernel_rfl) (by kernel_rfl) (fun _ _ _ h => h) (Or.inl ⟨by rfl, ?_⟩) (by assumption) ?_
        rotate_left
        focus ((intro w hSw; (try dsimp only at hSw); go_simp; try with_reducible rfl); done)
        (try simp only [Act.put, List.setIfInBounds_toArray, List.set_cons_zero, List.set_cons_succ, List.getElem_toArray, List.getElem_cons_zero, List.getElem_cons_succ])
        refine wpAnyH_take (i := 25) (oi := _) (v := ?_) rfl (by kernel_rfl) (by kernel_rfl) (by kernel_rfl) (fun _ _ _ h => h) (Or.inl ⟨by rfl, ?_⟩) (by assumption) ?_
        rotate_left
        focus ((intro w hSw; (try dsimp only at hSw); go_simp; try with_reducible rfl); done)
        (try simp only [Act.put, List.setIfInBounds_toArray, List.set_cons_zero, List.set_cons_succ, List.getElem_toArray, List.getElem_cons_zero, List.getElem_cons_succ])
        refine wpAnyH_take (i := 26) (oi := _) (v := ?_) rfl (by kernel_rfl) (by kernel_rfl) (by kernel_rfl) (fun _ _ _ h => h) (Or.inl ⟨by rfl, ?_⟩) (by assumption) ?_
        rotate_left
        focus ((intro w hSw; (try dsimp only at hSw); go_simp; try with_reducible rfl); done)
        (try simp only [Act.put, List.setIfInBounds_toArray, List.set_cons_zero, List.set_cons_succ, List.getElem_toArray, List.getElem_cons_zero, List.getElem_cons_succ])
        refine wpAnyH_take (i := 27) (oi := _) (v := ?_) rfl (by kernel_rfl) (by kernel_rfl) (by kernel_rfl) (fun _ _ _ h => h) (Or.inl ⟨by rfl, ?_⟩) (by assumption) ?_
        rotate_left
        focus ((intro w hSw; (try dsimp only at hSw); go_simp; try with_reducible rfl); done)
        (try simp only [Act.put, List.setIfInBounds_toArray, List.set_cons_zero, List.set_cons_succ, List.getElem_toArray, List.getElem_cons_zero, List.getElem_cons_succ])
        refine wpAnyH_take (i := 28) (oi := _) (v := ?_) rfl (by kernel_rfl) (by kernel_rfl) (by kernel_rfl) (fun _ _ _ h => h) (Or.inl ⟨by rfl, ?_⟩) (by assumption) ?_
        rotate_left
        focus ((intro w hSw; (try dsimp only at hSw); go_simp; try with_reducible rfl); done)
        (try simp only [Act.put, List.setIfInBounds_toArray, List.set_cons_zero, List.set_cons_succ, List.getElem_toArray, List.getElem_cons_zero, List.getElem_cons_succ])
        refine wpAnyH_take (i := 29) (oi := _) (v := ?_) rfl (by kernel_rfl) (by kernel_rfl) (by kernel_rfl) (fun _ _ _ h => h) (Or.inl ⟨by rfl, ?_⟩) (by assumption) ?_
        rotate_left
        focus ((intro w hSw; (try dsimp only at hSw); go_simp; try with_reducible rfl); done)
        (try simp only [Act.put, List.setIfInBounds_toArray, List.set_cons_zero, List.set_cons_succ, List.getElem_toArray, List.getElem_cons_zero, List.getElem_cons_succ])
        refine wpAnyH_take (i := 30) (oi := _) (v := ?_) rfl (by kernel_rfl) (by kernel_rfl) (by kernel_rfl) (fun _ _ _ h => h) (Or.inl ⟨by rfl, ?_⟩) (by assumption) ?_
        rotate_left
        focus ((intro w hSw; (try dsimp only at hSw); go_simp; try with_reducible rfl); done)
        (try simp only [Act.put, List.setIfInBounds_toArray, List.set_cons_zero, List.set_cons_succ, List.getElem_toArray, List.getElem_cons_zero, List.getElem_cons_succ])
        refine wpAnyH_take (i := 31) (oi := _) (v := undef) rfl (by kernel_rfl) (by kernel_rfl) (by kernel_rfl) (fun _ _ _ h => h) (Or.inr ⟨by rfl, rfl⟩) (by assumption) ?_
        (try simp only [Act.put, List.setIfInBounds_toArray, List.set_cons_zero, List.set_cons_succ, List.getElem_toArray, List.getElem_cons_zero, List.getElem_cons_succ])
        refine wpAnyH_take (i := 32) (oi := _) (v := undef) rfl (by kernel_rfl) (by kernel_rfl) (by kernel_rfl) (fun _ _ _ h => h) (Or.inr ⟨by rfl, rfl⟩) (by assumption) ?_
        (try simp only [Act.put, List.setIfInBounds_toArray, List.set_cons_zero, List.set_cons_succ, List.getElem_toArray, List.getElem_cons_zero, List.getElem_cons_succ])
        refine wpAnyH_take (i := 33) (oi := _) (v := undef) rfl (by kernel_rfl) (by kernel_rfl) (by kernel_rfl) (fun _ _ _ h => h) (Or.inr ⟨by rfl, rfl⟩) (by assumption) ?_
        (try simp only [Act.put, List.setIfInBounds_toArray, List.set_cons_zero, List.set_cons_succ, List.getElem_toArray, List.getElem_cons_zero, List.getElem_cons_succ])
        refine wpAnyH_take (i := 34) (oi := _) (v := undef) rfl (by kernel_rfl) (by kernel_rfl) (by kernel_rfl) (fun _ _ _ h => h) (Or.inr ⟨by rfl, rfl⟩) (by assumption) ?_
        (try simp only [Act.put, List.setIfInBounds_toArray, List.set_cons_zero, List.set_cons_succ, List.getElem_toArray, List.getElem_cons_zero, List.getElem_cons_succ])
        refine wpAnyH_take (i := 35) (oi := _) (v := undef) rfl (by kernel_rfl) (by kernel_rfl) (by kernel_rfl) (fun _ _ _ h => h) (Or.inr ⟨by rfl, rfl⟩) (by assumption) ?_
        (try simp only [Act.put, List.setIfInBounds_toArray, List.set_cons_zero, List.set_cons_succ, List.getElem_toArray, List.getElem_cons_zero, List.getElem_cons_succ])
        refine wpAnyH_take (i := 36) (oi := _) (v := undef) rfl (by kernel_rfl) (by kernel_rfl) (by kernel_rfl) (fun _ _ _ h => h) (Or.inr ⟨by rfl, rfl⟩) (by assumption) ?_
        (try simp only [Act.put, List.setIfInBounds_toArray, List.set_cons_zero, List.set_cons_succ, List.getElem_toArray, List.getElem_cons_zero, List.getElem_cons_succ])
        refine wpAnyH_take (i := 37) (oi := _) (v := undef) rfl (by kernel_rfl) (by kernel_rfl) (by kernel_rfl) (fun _ _ _ h => h) (Or.inr ⟨by rfl, rfl⟩) (by assumption) ?_
        (try simp only [Act.put, List.setIfInBounds_toArray, List.set_cons_zero, List.set_cons_succ, List.getElem_toArray, List.getElem_cons_zero, List.getElem_cons_succ])
        refine wpAnyH_take (i := 38) (oi := _) (v := undef) rfl (by kernel_rfl) (by kernel_rfl) (by kernel_rfl) (fun _ _ _ h => h) (Or.inr ⟨by rfl, rfl⟩) (by assumption) ?_
        (try simp only [Act.put, List.setIfInBounds_toArray, List.set_cons_zero, List.set_cons_succ, List.getElem_toArray, List.getElem_cons_zero, List.getElem_cons_succ])
        refine wpAnyH_take (i := 39) (oi := _) (v := undef) rfl (by kernel_rfl) (by kernel_rfl) (by kernel_rfl) (fun _ _ _ h => h) (Or.inr ⟨by rfl, rfl⟩) (by assumption) ?_
        (try simp only [Act.put, List.setIfInBounds_toArray, List.set_cons_zero, List.set_cons_succ, List.getElem_toArray, List.getElem_cons_zero, List.getElem_cons_succ])
        refine wpAnyH_take (i := 40) (oi := _) (v := undef) rfl (by kernel_rfl) (by kernel_rfl) (by kernel_rfl) (fun _ _ _ h => h) (Or.inr ⟨by rfl, rfl⟩) (by assumption) ?_
        (try simp only [Act.put, List.setIfInBounds_toArray, List.set_cons_zero, List.set_cons_succ, List.getElem_toArray, List.getElem_cons_zero, List.getElem_cons_succ])
        refine wpAnyH_take (i := 41) (oi := _) (v := undef) rfl (by kernel_rfl) (by kernel_rfl) (by kernel_rfl) (fun _ _ _ h => h) (Or.inr ⟨by rfl, rfl⟩) (by assumption) ?_
        (try simp only [Act.put, List.setIfInBounds_toArray, List.set_cons_zero, List.set_cons_succ, List.getElem_toArray, List.getElem_cons_zero, List.getElem_cons_succ])
        refine wpAnyH_take (i := 42) (oi := _) (v := ?_) rfl (by kernel_rfl) (by kernel_rfl) (by kernel_rfl) (fun _ _ _ h => h) (Or.inl ⟨by rfl, ?_⟩) (by assumption) ?_
        rotate_left
        focus ((intro w hSw; (try dsimp only at hSw); go_simp; try with_reducible rfl); done)
        (try simp only [Act.put, List.setIfInBounds_toArray, List.set_cons_zero, List.set_cons_succ, List.getElem_toArray, List.getElem_cons_zero, List.getElem_cons_succ])
        refine wpAnyH_take (i := 43) (oi := _) (v := ?_) rfl (by kernel_rfl) (by kernel_rfl) (by kernel_rfl) (fun _ _ _ h => h) (Or.inl ⟨by rfl, ?_⟩) (by assumption) ?_
        rotate_left
        focus ((intro w hSw; (try dsimp only at hSw); go_simp; try with_reducible rfl); done)
        (try simp only [Act.put, List.setIfInBounds_toArray, List.set_cons_zero, List.set_cons_succ, List.getElem_toArray, List.getElem_cons_zero, List.getElem_cons_succ])
        refine wpAnyH_take (i := 44) (oi := _) (v := ?_) rfl (by kernel_rfl) (by kernel_rfl) (by kernel_rfl) (fun _ _ _ h => h) (Or.inl ⟨by rfl, ?_⟩) (by assumption) ?_
        rotate_left
        focus ((intro w hSw; (try dsimp only at hSw); go_simp; try with_reducible rfl); done)
        (try simp only [Act.put, List.setIfInBounds_toArray, List.set_cons_zero, List.set_cons_succ, List.getElem_toArray, List.getElem_cons_zero, List.getElem_cons_succ])
        refine wpAnyH_take (i := 45) (oi := _) (v := ?_) rfl (by kernel_rfl) (by kernel_rfl) (by kernel_rfl) (fun _ _ _ h => h) (Or.inl ⟨by rfl, ?_⟩) (by assumption) ?_
        rotate_left
        focus ((intro w hSw; (try dsimp only at hSw); go_simp; try with_reducible rfl); done)
        (try simp only [Act.put, List.setIfInBounds_toArray, List.set_cons_zero, List.set_cons_succ, List.getElem_toArray, List.getElem_cons_zero, List.getElem_cons_succ])
        refine wpAnyH_take (i := 46) (oi := _) (v := ?_) rfl (by kernel_rfl) (by kernel_rfl) (by kernel_rfl) (fun _ _ _ h => h) (Or.inl ⟨by rfl, ?_⟩) (by assumption) ?_
        rotate_left
        focus ((intro w hSw; (try dsimp only at hSw); go_simp; try with_reducible rfl); done)
        (try simp only [Act.put, List.setIfInBounds_toArray, List.set_cons_zero, List.set_cons_succ, List.getElem_toArray, List.getElem_cons_zero, List.getElem_cons_succ])
        refine wpAnyH_take (i := 47) (oi := _) (v := ?_) rfl (by kernel_rfl) (by kernel_rfl) (by kernel_rfl) (fun _ _ _ h => h) (Or.inl ⟨by rfl, ?_⟩) (by assumption) ?_
        rotate_left
        focus ((intro w hSw; (try dsimp only at hSw); go_simp; try with_reducible rfl); done)
        (try simp only [Act.put, List.setIfInBounds_toArray, List.set_cons_zero, List.set_cons_succ, List.getElem_toArray, List.getElem_cons_zero, List.getElem_cons_succ])
        refine wpAnyH_take (i := 48) (oi := _) (v := ?_) rfl (by kernel_rfl) (by kernel_rfl) (by kernel_rfl) (fun _ _ _ h => h) (Or.inl ⟨by rfl, ?_⟩) (by assumption) ?_
        rotate_left
        focus ((intro w hSw; (try dsimp only at hSw); go_simp; try with_reducible rfl); done)
        (try simp only [Act.put, List.setIfInBounds_toArray, List.set_cons_zero, List.set_cons_succ, List.getElem_toArray, List.getElem_cons_zero, List.getElem_cons_succ])
        refine wpAnyH_take (i := 49) (oi := _) (v := ?_) rfl (by kernel_rfl) (by kernel_rfl) (by kernel_rfl) (fun _ _ _ h => h) (Or.inl ⟨by rfl, ?_⟩) (by assumption) ?_
        rotate_left
        focus ((intro w hSw; (try dsimp only at hSw); go_simp; try with_reducible rfl); done)
        (try simp only [Act.put, List.setIfInBounds_toArray, List.set_cons_zero, List.set_cons_succ, List.getElem_toArray, List.getElem_cons_zero, List.getElem_cons_succ])
        refine wpAnyH_ready (rs := [50]) (by kernel_rfl) (by simp) ?_
        refine AllReadyH.cons (o := _) rfl (fun K hK => ?_) AllReadyH.nil
        go_simp
        go_wp2_with (go_at_call 22; (with_reducible refine (kS _ (And.right (by assumption))).mono ?_); rintro e w10 ⟨rfl, hb10⟩; have S10 := HM.out w10 (bl_any (And.right (by assumption)) hb10))
        refine hK.out _ _ ?_ (fun hHeld4 => ?_)
        · (try dsimp only); (first | assumption | (refine HM.out _ ?_; first | assumption | exact And.right (by assumption) | exact (Below.refl _ _).drew))
        clear hK K
        (try simp only [Act.put, List.setIfInBounds_toArray, List.set_cons_zero, List.set_cons_succ, List.getElem_toArray, List.getElem_cons_zero, List.getElem_cons_succ])
        refine wpAnyH_take (i := 51) (oi := _) (v := ?_) rfl (by kernel_rfl) (by kernel_rfl) (by kernel_rfl) (fun _ _ _ h => h) (Or.inl ⟨by rfl, ?_⟩) (by assumption) ?_
        rotate_left
        focus ((intro w hSw; (try dsimp only at hSw); go_simp; try with_reducible rfl); done)
        (try simp only [Act.put, List.setIfInBounds_toArray, List.set_cons_zero, List.set_cons_succ, List.getElem_toArray, List.getElem_cons_zero, List.getElem_cons_succ])
        refine wpAnyH_take (i := 52) (oi := _) (v := ?_) rfl (by kernel_rfl) (by kernel_rfl) (by kernel_rfl) (fun _ _ _ h => h) (Or.inl ⟨by rfl, ?_⟩) (by assumption) ?_
        rotate_left
        focus ((intro w hSw; (try dsimp only at hSw); go_simp; try with_reducible rfl); done)
        (try simp only [Act.put, List.setIfInBounds_toArray, List.set_cons_zero, List.set_cons_succ, List.getElem_toArray, List.getElem_cons_zero, List.getElem_cons_succ])
        refine wpAnyH_take (i := 53) (oi := _) (v := ?_) rfl (by kernel_rfl) (by kernel_rfl) (by kernel_rfl) (fun _ _ _ h => h) (Or.inl ⟨by rfl, ?_⟩) (by assumption) ?_
        rotate_left
        focus ((intro w hSw; (try dsimp only at hSw); go_simp; try with_reducible rfl); done)
        (try simp only [Act.put, List.setIfInBounds_toArray, List.set_cons_zero, List.set_cons_succ, List.getElem_toArray, List.getElem_cons_zero, List.getElem_cons_succ])
        refine wpAnyH_done (by kernel_rfl) ?_ _
        all_goals
          have hP10 : PS w w10 p b q at_ A2 c2 m2 R2 := hP7.bel (And.right S10)
          have hN10 := hN7.bel (And.right S10)
          clear hP7 hB7 hN7 kC kR kS HM HC1 hcb hgb
          go_wp2_with fail
          go_loopw [13] (fun i wi => PS w wi p b q at_ A2 c2 m2 R2 ∧ IsRows strCell 1 wi wi.heap.size lA R2.length (R2.map VTen.name) ∧ ∃ j : Nat, j ≤ R2.length ∧ i = .int .i64 j) (fun i _ => R2.length - (intOf i).toNat)
          case atStart => exact ⟨hP10, hN10, 0, by omega, rfl⟩
          case round =>
            obtain ⟨hPj, hNj, j, hj, rfl⟩ := hrel
            clear hP10 hN10
            have g0 := (Blk.cell hPj.gw.blk 0).trans rfl
            by_cases hjl : j < R2.length
            · have hdj : decide ((j : Int) < (R2.length : Int)) = true := decide_eq_true (by omega)
              have hj0 : (0 : Int) ≤ j := by omega
              have hj1 : (j : Int) < (R2.length : Int) := by omega
              obtain ⟨bn, on, z, hlA, hbn, hz, z0⟩ := str_at hNj hjl
              obtain ⟨br, or_, hA2, hbr, hcr⟩ := hPj.gw.rows.2 (by omega)
              obtain ⟨u, hu⟩ : ∃ u, R2[j]? = some u := ⟨_, List.getElem?_eq_getElem hjl⟩
              have hzu : z = u.name := by rw [List.getElem?_map, hu] at hz; injection hz with hz; exact hz.symm
              have u0 : wr.cell? ⟨br, or_ + j * 11, none⟩ = some (.string u.name) := hcr j u 0 _ hu rfl
              subst hzu
              have g1 : wr.cell? ⟨q, 0, none⟩ = some (.slice (some ⟨br, or_, none⟩) R2.length c2) := by rw [← hA2]; exact g0
              have hlA' := Lib.hid hlA
              clear hz hu hcr g0 hA2
              rw [hlA]
              clear hlA
              go_wp2_with fail
              go_quiet (fail)
              go_wp2_with fail
              exact ⟨⟨hPj.bel (bl_drewN (Below.refl _ _) _), (show ∀ N : Nat, IsRows strCell 1 (wr.drewN N) (wr.drewN N).heap.size (some ⟨bn, on, none⟩) R2.length (R2.map VTen.name) from fun N => by have h := hNj.bel (bl_drewN (Below.refl _ _) N); rw [hlA'.out] at h; exact h) _, j + 1, by omega, rfl⟩, by (simp only [intOf]; omega)⟩
            · have hdj : decide ((j : Int) < (R2.length : Int)) = false := decide_eq_false (by omega)
              go_wp2_with fail
              exact ⟨⟨k + 1, m2, R2, A2, c2, by omega, rfl, hPj, HB2, hR2⟩, by (simp only [intOf]; omega)⟩
      · have hlb : lookB m2 X.name.data.toList = xx := by unfold lookB; rw [hlook]; rfl
        have kG := bget_any p b m2 X.name w5 hP5.bk hmx xx hlb true hhas
        rw [hlb] at hlc
        generalize hrl : xx.rules.length = rl at kG
        have HRL := Lib.hid hrl
        clear hlook hlb hhas hrl
        go_upto_region 21 with (go_at_call 18; (with_reducible refine kG.mono ?_); rintro e w6 ⟨⟨A9, c9, qs, rfl, hQ, hO⟩, hb6⟩)
        have hqn : rl = qs.length := by have := congrArg List.length hQ; rw [List.length_map, List.length_map, HRL.out] at this; exact this.symm
        subst hqn
        have HC1 : Hid (∀ W', Below w6.heap.size w6 W' → CfgAt W' W'.heap.size ⟨xx.protos, xx.bytes, xx.points, xx.store, xx.mode, xx.unit, A9, c9, qs⟩) := Lib.hid (fun W' hb => (own_cfg hO rfl hQ hlc ⟨xx.protos, xx.bytes, xx.points, xx.store, xx.mode, xx.unit, A9, c9, qs⟩ ⟨rfl, rfl⟩).bel hb)
        have HQ := Lib.hid (hQ.trans hlk.rules.symm)
        have HK := Lib.hid hlk
        have HY := Lib.hid hy
        clear hQ hO kG hlc hlk hy hyn
        have hcb := Blk.new w6 30 #[.int .i64 xx.protos, .int .i64 xx.bytes, .int .i64 xx.points, .int .i64 xx.store, .int .i64 xx.mode, .int .i64 xx.unit, .slice A9 qs.length c9]
        have hP7 := (hP5.bel hb6).alloc (.cells #[.int .i64 xx.protos, .int .i64 xx.bytes, .int .i64 xx.points, .int .i64 xx.store, .int .i64 xx.mode, .int .i64 xx.unit, .slice A9 qs.length c9] 30)
        have hB7 := (hB5.bel hb6).bel ((Below.refl _ _).alloc (Nat.le_refl _) (.cells #[.int .i64 xx.protos, .int .i64 xx.bytes, .int .i64 xx.points, .int .i64 xx.store, .int .i64 xx.mode, .int .i64 xx.unit, .slice A9 qs.length c9] 30))
        have hN7 := (hNR.bel hb6).bel ((Below.refl w6.heap.size w6).alloc (Nat.le_refl _) (.cells #[.int .i64 xx.protos, .int .i64 xx.bytes, .int .i64 xx.points, .int .i64 xx.store, .int .i64 xx.mode, .int .i64 xx.unit, .slice A9 qs.length c9] 30))
        have hb67 : Below w6.heap.size w6 (w6.alloc (.cells #[.int .i64 xx.protos, .int .i64 xx.bytes, .int .i64 xx.points, .int .i64 xx.store, .int .i64 xx.mode, .int .i64 xx.unit, .slice A9 qs.length c9] 30)) := bl_alloc (Below.refl _ _) _
        clear x1 x2 x3 x4 x5 x6 x7 x8 x9 hP5 hB5 hNR hb6
        generalize w6.alloc (.cells #[.int .i64 xx.protos, .int .i64 xx.bytes, .int .i64 xx.points, .int .i64 xx.store, .int .i64 xx.mode, .int .i64 xx.unit, .slice A9 qs.length c9] 30) = W7 at *
        generalize hcbn : w6.heap.size = cb at *
        have kF := gfind_any q at_ A2 c2 R2 X.name W7 hP7.gw (by omega)
        rw [hix] at kF
        clear hix
        obtain ⟨⟨x1, x2, x3, x4, x5, x6, x7, x8, x9⟩, _⟩ := hB7.fs
        go_upto_region 22 with (go_at_call 19; (with_reducible refine kF.mono ?_); rintro e w8 ⟨rfl, hw8⟩; rw [hw8]; clear hw8 w8)
        clear kF
        have hgb := hP7.gw.blk
        have g0 := (Blk.cell hgb 0).trans rfl
        have hlq := Blk.lt hgb
        have hlx := Blk.lt hB7
        have hlb := Blk.lt hcb
        have c0 := (Blk.cell hcb 0).trans rfl; have c1 := (Blk.cell hcb 1).trans rfl; have c2' := (Blk.cell hcb 2).trans rfl; have c3 := (Blk.cell hcb 3).trans rfl; have c4 := (Blk.cell hcb 4).trans rfl; have c5 := (Blk.cell hcb 5).trans rfl; have c6 := (Blk.cell hcb 6).trans rfl
        have hK0 : (0 : Int) ≤ K := by omega
        have hK1 : (K : Int) < (R2.length : Int) := by omega
        have hKd : decide ((0 : Int) ≤ (K : Int)) = true := decide_eq_true (by omega)
        have hGy := hP7.gw.cfg y (List.mem_of_getElem? HY.out)
        obtain ⟨b2, o2, rfl, hb2, hcs⟩ := hP7.gw.rows.2 (by omega)
        have r1 : W7.cell? ⟨b2, o2 + K * 11 + 1, none⟩ = some (.int .i64 xx.protos) := (hcs K y 1 _ HY.out rfl).trans (by rw [HK.out.protos])
        have r2 : W7.cell? ⟨b2, o2 + K * 11 + 2, none⟩ = some (.int .i64 xx.bytes) := (hcs K y 2 _ HY.out rfl).trans (by rw [HK.out.bytes])
        have r3 : W7.cell? ⟨b2, o2 + K * 11 + 3, none⟩ = some (.int .i64 xx.points) := (hcs K y 3 _ HY.out rfl).trans (by rw [HK.out.points])
        have r4 : W7.cell? ⟨b2, o2 + K * 11 + 4, none⟩ = some (.int .i64 xx.store) := (hcs K y 4 _ HY.out rfl).trans (by rw [HK.out.store])
        have r5 : W7.cell? ⟨b2, o2 + K * 11 + 5, none⟩ = some (.int .i64 xx.mode) := (hcs K y 5 _ HY.out rfl).trans (by rw [HK.out.mode])
        have r6 : W7.cell? ⟨b2, o2 + K * 11 + 6, none⟩ = some (.int .i64 xx.unit) := (hcs K y 6 _ HY.out rfl).trans (by rw [HK.out.unit])
        have r7 : W7.cell? ⟨b2, o2 + K * 11 + 7, none⟩ = some (.slice y.cfg.A y.cfg.rules.length y.cfg.c) := hcs K y 7 _ HY.out rfl
        clear hcs
        have mkS : ∀ W', Below W7.heap.size W7 W' → (W'.cell? ⟨bx, 2, none⟩ = some (.int .i64 X.cfg.protos) ∧ W'.cell? ⟨bx, 3, none⟩ = some (.int .i64 X.cfg.bytes) ∧ W'.cell? ⟨bx, 4, none⟩ = some (.int .i64 X.cfg.points) ∧ W'.cell? ⟨bx, 5, none⟩ = some (.int .i64 X.cfg.store) ∧ W'.cell? ⟨bx, 6, none⟩ = some (.int .i64 X.cfg.mode) ∧ W'.cell? ⟨bx, 7, none⟩ = some (.int .i64 X.cfg.unit) ∧ W'.cell? ⟨bx, 8, none⟩ = some (.slice X.cfg.A X.cfg.rules.length X.cfg.c) ∧ W'.cell? ⟨q, 0, none⟩ = some (.slice (some ⟨b2, o2, none⟩) R2.length c2) ∧ W'.cell? ⟨cb, 0, none⟩ = some (.int .i64 xx.protos) ∧ W'.cell? ⟨cb, 1, none⟩ = some (.int .i64 xx.bytes) ∧ W'.cell? ⟨cb, 2, none⟩ = some (.int .i64 xx.points) ∧ W'.cell? ⟨cb, 3, none⟩ = some (.int .i64 xx.store) ∧ W'.cell? ⟨cb, 4, none⟩ = some (.int .i64 xx.mode) ∧ W'.cell? ⟨cb, 5, none⟩ = some (.int .i64 xx.unit) ∧ W'.cell? ⟨cb, 6, none⟩ = some (.slice A9 qs.length c9) ∧ W'.cell? ⟨b2, o2 + K * 11 + 1, none⟩ = some (.int .i64 xx.protos) ∧ W'.cell? ⟨b2, o2 + K * 11 + 2, none⟩ = some (.int .i64 xx.bytes) ∧ W'.cell? ⟨b2, o2 + K * 11 + 3, none⟩ = some (.int .i64 xx.points) ∧ W'.cell? ⟨b2, o2 + K * 11 + 4, none⟩ = some (.int .i64 xx.store) ∧ W'.cell? ⟨b2, o2 + K * 11 + 5, none⟩ = some (.int .i64 xx.mode) ∧ W'.cell? ⟨b2, o2 + K * 11 + 6, none⟩ = some (.int .i64 xx.unit) ∧ W'.cell? ⟨b2, o2 + K * 11 + 7, none⟩ = some (.slice y.cfg.A y.cfg.rules.length y.cfg.c)) ∧ Below W7.heap.size W7 W' := fun W' hb' =>
          ⟨⟨(hb'.cell (p := ⟨bx, 2, none⟩) hlx).trans x2, (hb'.cell (p := ⟨bx, 3, none⟩) hlx).trans x3, (hb'.cell (p := ⟨bx, 4, none⟩) hlx).trans x4, (hb'.cell (p := ⟨bx, 5, none⟩) hlx).trans x5, (hb'.cell (p := ⟨bx, 6, none⟩) hlx).trans x6, (hb'.cell (p := ⟨bx, 7, none⟩) hlx).trans x7, (hb'.cell (p := ⟨bx, 8, none⟩) hlx).trans x8, (hb'.cell (p := ⟨q, 0, none⟩) hlq).trans g0, (hb'.cell (p := ⟨cb, 0, none⟩) hlb).trans c0, (hb'.cell (p := ⟨cb, 1, none⟩) hlb).trans c1, (hb'.cell (p := ⟨cb, 2, none⟩) hlb).trans c2', (hb'.cell (p := ⟨cb, 3, none⟩) hlb).trans c3, (hb'.cell (p := ⟨cb, 4, none⟩) hlb).trans c4, (hb'.cell (p := ⟨cb, 5, none⟩) hlb).trans c5, (hb'.cell (p := ⟨cb, 6, none⟩) hlb).trans c6, (hb'.cell (p := ⟨b2, o2 + K * 11 + 1, none⟩) hb2).trans r1, (hb'.cell (p := ⟨b2, o2 + K * 11 + 2, none⟩) hb2).trans r2, (hb'.cell (p := ⟨b2, o2 + K * 11 + 3, none⟩) hb2).trans r3, (hb'.cell (p := ⟨b2, o2 + K * 11 + 4, none⟩) hb2).trans r4, (hb'.cell (p := ⟨b2, o2 + K * 11 + 5, none⟩) hb2).trans r5, (hb'.cell (p := ⟨b2, o2 + K * 11 + 6, none⟩) hb2).trans r6, (hb'.cell (p := ⟨b2, o2 + K * 11 + 7, none⟩) hb2).trans r7⟩, hb'⟩
        have hS0 := Below.refl W7.heap.size W7
        have HM := Lib.hid mkS
        have kC := fun W' (hb : Below W7.heap.size W7 W') => check_any X.cfg W' ((hP7.own hXC).bel hb)
        have kR := fun W' (hb : Below W7.heap.size W7 W') => rcheck_any X.cfg W' ((hP7.own hXC).bel hb) hprot
        have kS := fun W' (hb : Below W7.heap.size W7 W') => rsame_any xx.protos xx.bytes xx.points xx.store xx.mode xx.unit qs y.cfg.rules A9 y.cfg.A c9 y.cfg.c W' (HC1.out W' (hb67.trans (hb.mono (by have := hb67.size; omega)))) (by
          have h := hGy.bel hb
          exact ⟨h.rows, h.each, h.len⟩) HQ.out
        clear mkS x1 x2 x3 x4 x5 x6 x7 x8 x9 g0 c0 c1 c2' c3 c4 c5 c6 r1 r2 r3 r4 r5 r6 r7
        refine wp_region_held_drew (S := (fun w' => (w'.cell? ⟨bx, 2, none⟩ = some (.int .i64 X.cfg.protos) ∧ w'.cell? ⟨bx, 3, none⟩ = some (.int .i64 X.cfg.bytes) ∧ w'.cell? ⟨bx, 4, none⟩ = some (.int .i64 X.cfg.points) ∧ w'.cell? ⟨bx, 5, none⟩ = some (.int .i64 X.cfg.store) ∧ w'.cell? ⟨bx, 6, none⟩ = some (.int .i64 X.cfg.mode) ∧ w'.cell? ⟨bx, 7, none⟩ = some (.int .i64 X.cfg.unit) ∧ w'.cell? ⟨bx, 8, none⟩ = some (.slice X.cfg.A X.cfg.rules.length X.cfg.c) ∧ w'.cell? ⟨q, 0, none⟩ = some (.slice (some ⟨b2, o2, none⟩) R2.length c2) ∧ w'.cell? ⟨cb, 0, none⟩ = some (.int .i64 xx.protos) ∧ w'.cell? ⟨cb, 1, none⟩ = some (.int .i64 xx.bytes) ∧ w'.cell? ⟨cb, 2, none⟩ = some (.int .i64 xx.points) ∧ w'.cell? ⟨cb, 3, none⟩ = some (.int .i64 xx.store) ∧ w'.cell? ⟨cb, 4, none⟩ = some (.int .i64 xx.mode) ∧ w'.cell? ⟨cb, 5, none⟩ = some (.int .i64 xx.unit) ∧ w'.cell? ⟨cb, 6, none⟩ = some (.slice A9 qs.length c9) ∧ w'.cell? ⟨b2, o2 + K * 11 + 1, none⟩ = some (.int .i64 xx.protos) ∧ w'.cell? ⟨b2, o2 + K * 11 + 2, none⟩ = some (.int .i64 xx.bytes) ∧ w'.cell? ⟨b2, o2 + K * 11 + 3, none⟩ = some (.int .i64 xx.points) ∧ w'.cell? ⟨b2, o2 + K * 11 + 4, none⟩ = some (.int .i64 xx.store) ∧ w'.cell? ⟨b2, o2 + K * 11 + 5, none⟩ = some (.int .i64 xx.mode) ∧ w'.cell? ⟨b2, o2 + K * 11 + 6, none⟩ = some (.int .i64 xx.unit) ∧ w'.cell? ⟨b2, o2 + K * 11 + 7, none⟩ = some (.slice y.cfg.A y.cfg.rules.length y.cfg.c)) ∧ Below W7.heap.size W7 w')) (by kernel_rfl) ?_ (fun hHeld0 => ?_)
        · (try dsimp only); (first | assumption | (refine HM.out _ ?_; first | assumption | exact And.right (by assumption) | exact (Below.refl _ _).drew))
        refine wpAnyH_take (i := 0) (oi := _) (v := ?_) rfl (by kernel_rfl) (by kernel_rfl) (by kernel_rfl) (fun _ _ _ h => h) (Or.inl ⟨by rfl, ?_⟩) (by assumption) ?_
        rotate_left
        focus ((intro w hSw; (try dsimp only at hSw); go_simp; try with_reducible rfl); done)
        (try simp only [Act.put, List.setIfInBounds_toArray, List.set_cons_zero, List.set_cons_succ, List.getElem_toArray, List.getElem_cons_zero, List.getElem_cons_succ])
        refine wpAnyH_take (i := 1) (oi := _) (v := ?_) rfl (by kernel_rfl) (by kernel_rfl) (by kernel_rfl) (fun _ _ _ h => h) (Or.inl ⟨by rfl, ?_⟩) (by assumption) ?_
        rotate_left
        focus ((intro w hSw; (try dsimp only at hSw); go_simp; try with_reducible rfl); done)
        (try simp only [Act.put, List.setIfInBounds_toArray, List.set_cons_zero, List.set_cons_succ, List.getElem_toArray, List.getElem_cons_zero, List.getElem_cons_succ])
        refine wpAnyH_take (i := 2) (oi := _) (v := ?_) rfl (by kernel_rfl) (by kernel_rfl) (by kernel_rfl) (fun _ _ _ h => h) (Or.inl ⟨by rfl, ?_⟩) (by assumption) ?_
        rotate_left
        focus ((intro w hSw; (try dsimp only at hSw); go_simp; try with_reducible rfl); done)
        (try simp only [Act.put, List.setIfInBounds_toArray, List.set_cons_zero, List.set_cons_succ, List.getElem_toArray, List.getElem_cons_zero, List.getElem_cons_succ])
        refine wpAnyH_take (i := 3) (oi := _) (v := ?_) rfl (by kernel_rfl) (by kernel_rfl) (by kernel_rfl) (fun _ _ _ h => h) (Or.inl ⟨by rfl, ?_⟩) (by assumption) ?_
        rotate_left
        focus ((intro w hSw; (try dsimp only at hSw); go_simp; try with_reducible rfl); done)
        (try simp only [Act.put, List.setIfInBounds_toArray, List.set_cons_zero, List.set_cons_succ, List.getElem_toArray, List.getElem_cons_zero, List.getElem_cons_succ])
        refine wpAnyH_take (i := 4) (oi := _) (v := ?_) rfl (by kernel_rfl) (by kernel_rfl) (by kernel_rfl) (fun _ _ _ h => h) (Or.inl ⟨by rfl, ?_⟩) (by assumption) ?_
        rotate_left
        focus ((intro w hSw; (try dsimp only at hSw); go_simp; try with_reducible rfl); done)
        (try simp only [Act.put, List.setIfInBounds_toArray, List.set_cons_zero, List.set_cons_succ, List.getElem_toArray, List.getElem_cons_zero, List.getElem_cons_succ])
        refine wpAnyH_take (i := 5) (oi := _) (v := ?_) rfl (by kernel_rfl) (by kernel_rfl) (by kernel_rfl) (fun _ _ _ h => h) (Or.inl ⟨by rfl, ?_⟩) (by assumption) ?_
        rotate_left
        focus ((intro w hSw; (try dsimp only at hSw); go_simp; try with_reducible rfl); done)
        (try simp only [Act.put, List.setIfInBounds_toArray, List.set_cons_zero, List.set_cons_succ, List.getElem_toArray, List.getElem_cons_zero, List.getElem_cons_succ])
        refine wpAnyH_take (i := 7) (oi := _) (v := ?_) rfl (by kernel_rfl) (by kernel_rfl) (by kernel_rfl) (fun _ _ _ h => h) (Or.inl ⟨by rfl, ?_⟩) (by assumption) ?_
        rotate_left
        focus ((intro w hSw; (try dsimp only at hSw); go_simp; try with_reducible rfl); done)
        (try simp only [Act.put, List.setIfInBounds_toArray, List.set_cons_zero, List.set_cons_succ, List.getElem_toArray, List.getElem_cons_zero, List.getElem_cons_succ])
        refine wpAnyH_take (i := 8) (oi := _) (v := ?_) rfl (by kernel_rfl) (by kernel_rfl) (by kernel_rfl) (fun _ _ _ h => h) (Or.inl ⟨by rfl, ?_⟩) (by assumption) ?_
        rotate_left
        focus ((intro w hSw; (try dsimp only at hSw); go_simp; try with_reducible rfl); done)
        (try simp only [Act.put, List.setIfInBounds_toArray, List.set_cons_zero, List.set_cons_succ, List.getElem_toArray, List.getElem_cons_zero, List.getElem_cons_succ])
        refine wpAnyH_ready (rs := [6]) (by kernel_rfl) (by simp) ?_
        refine AllReadyH.cons (o := _) rfl (fun K hK => ?_) AllReadyH.nil
        go_simp
        go_wp2_with (go_at_call 20; (with_reducible refine (kC _ (And.right (by assumption))).mono ?_); rintro e w8 ⟨rfl, hb8⟩; have S8 := HM.out w8 (bl_any (And.right (by assumption)) hb8))
        refine hK.out _ _ ?_ (fun hHeld1 => ?_)
        · (try dsimp only); (first | assumption | (refine HM.out _ ?_; first | assumption | exact And.right (by assumption) | exact (Below.refl _ _).drew))
        clear hK K
        (try simp only [Act.put, List.setIfInBounds_toArray, List.set_cons_zero, List.set_cons_succ, List.getElem_toArray, List.getElem_cons_zero, List.getElem_cons_succ])
        refine wpAnyH_ready (rs := [9]) (by kernel_rfl) (by simp) ?_
        refine AllReadyH.cons (o := _) rfl (fun K hK => ?_) AllReadyH.nil
        go_simp
        go_wp2_with (go_at_call 21; (with_reducible refine (kR _ (And.right (by assumption))).mono ?_); rintro e w9 ⟨rfl, hb9⟩; have S9 := HM.out w9 (bl_any (And.right (by assumption)) hb9))
        refine hK.out _ _ ?_ (fun hHeld2 => ?_)
        · (try dsimp only); (first | assumption | (refine HM.out _ ?_; first | assumption | exact And.right (by assumption) | exact (Below.refl _ _).drew))
        clear hK K
        (try simp only [Act.put, List.setIfInBounds_toArray, List.set_cons_zero, List.set_cons_succ, List.getElem_toArray, List.getElem_cons_zero, List.getElem_cons_succ])
        refine wpAnyH_take (i := 10) (oi := _) (v := ?_) rfl (by kernel_rfl) (by kernel_rfl) (by kernel_rfl) (fun _ _ _ h => h) (Or.inl ⟨by rfl, ?_⟩) (by assumption) ?_
        rotate_left
        focus ((intro w hSw; (try dsimp only at hSw); go_simp; try with_reducible rfl); done)
        (try simp only [Act.put, List.setIfInBounds_toArray, List.set_cons_zero, List.set_cons_succ, List.getElem_toArray, List.getElem_cons_zero, List.getElem_cons_succ])
        refine wpAnyH_take (i := 11) (oi := _) (v := ?_) rfl (by kernel_rfl) (by kernel_rfl) (by kernel_rfl) (fun _ _ _ h => h) (Or.inl ⟨by rfl, ?_⟩) (by assumption) ?_
        rotate_left
        focus ((intro w hSw; (try dsimp only at hSw); go_simp; try with_reducible rfl); done)
        (try simp only [Act.put, List.setIfInBounds_toArray, List.set_cons_zero, List.set_cons_succ, List.getElem_toArray, List.getElem_cons_zero, List.getElem_cons_succ])
        refine wpAnyH_take (i := 12) (oi := _) (v := ?_) rfl (by kernel_rfl) (by kernel_rfl) (by kernel_rfl) (fun _ _ _ h => h) (Or.inl ⟨by rfl, ?_⟩) (by assumption) ?_
        rotate_left
        focus ((intro w hSw; (try dsimp only at hSw); go_simp; try with_reducible rfl); done)
        (try simp only [Act.put, List.setIfInBounds_toArray, List.set_cons_zero, List.set_cons_succ, List.getElem_toArray, List.getElem_cons_zero, List.getElem_cons_succ])
        refine wpAnyH_take (i := 13) (oi := _) (v := ?_) rfl (by kernel_rfl) (by kernel_rfl) (by kernel_rfl) (fun _ _ _ h => h) (Or.inl ⟨by rfl, ?_⟩) (by assumption) ?_
        rotate_left
        focus ((intro w hSw; (try dsimp only at hSw); go_simp; try with_reducible rfl); done)
        (try simp only [Act.put, List.setIfInBounds_toArray, List.set_cons_zero, List.set_cons_succ, List.getElem_toArray, List.getElem_cons_zero, List.getElem_cons_succ])
        refine wpAnyH_take (i := 14) (oi := _) (v := ?_) rfl (by kernel_rfl) (by kernel_rfl) (by kernel_rfl) (fun _ _ _ h => h) (Or.inl ⟨by rfl, ?_⟩) (by assumption) ?_
        rotate_left
        focus ((intro w hSw; (try dsimp only at hSw); go_simp; try with_reducible rfl); done)
        (try simp only [Act.put, List.setIfInBounds_toArray, List.set_cons_zero, List.set_cons_succ, List.getElem_toArray, List.getElem_cons_zero, List.getElem_cons_succ])
        refine wpAnyH_take (i := 15) (oi := _) (v := ?_) rfl (by kernel_rfl) (by kernel_rfl) (by kernel_rfl) (fun _ _ _ h => h) (Or.inl ⟨by rfl, ?_⟩) (by assumption) ?_
        rotate_left
        focus ((intro w hSw; (try dsimp only at hSw); go_simp; try with_reducible rfl); done)
        (try simp only [Act.put, List.setIfInBounds_toArray, List.set_cons_zero, List.set_cons_succ, List.getElem_toArray, List.getElem_cons_zero, List.getElem_cons_succ])
        refine wpAnyH_ready (rs := [16]) (by kernel_rfl) (by simp) ?_
        refine AllReadyH.cons (o := _) rfl (fun K hK => ?_) AllReadyH.nil
        go_simp
        refine hK.out _ _ ?_ (fun hHeld3 => ?_)
        · (try dsimp only); (first | assumption | (refine HM.out _ ?_; first | assumption | exact And.right (by assumption) | exact (Below.refl _ _).drew))
        clear hK K
        (try simp only [Act.put, List.setIfInBounds_toArray, List.set_cons_zero, List.set_cons_succ, List.getElem_toArray, List.getElem_cons_zero, List.getElem_cons_succ])
        refine wpAnyH_take (i := 17) (oi := _) (v := ?_) rfl (by kernel_rfl) (by kernel_rfl) (by kernel_rfl) (fun _ _ _ h => h) (Or.inl ⟨by rfl, ?_⟩) (by assumption) ?_
        rotate_left
        focus ((intro w hSw; (try dsimp only at hSw); go_simp; try with_reducible rfl); done)
        (try simp only [Act.put, List.setIfInBounds_toArray, List.set_cons_zero, List.set_cons_succ, List.getElem_toArray, List.getElem_cons_zero, List.getElem_cons_succ])
        refine wpAnyH_take (i := 18) (oi := _) (v := ?_) rfl (by kernel_rfl) (by kernel_rfl) (by kernel_rfl) (fun _ _ _ h => h) (Or.inl ⟨by rfl, ?_⟩) (by assumption) ?_
        rotate_left
        focus ((intro w hSw; (try dsimp only at hSw); go_simp; try with_reducible rfl); done)
        (try simp only [Act.put, List.setIfInBounds_toArray, List.set_cons_zero, List.set_cons_succ, List.getElem_toArray, List.getElem_cons_zero, List.getElem_cons_succ])
        refine wpAnyH_take (i := 19) (oi := _) (v := ?_) rfl (by kernel_rfl) (by kernel_rfl) (by kernel_rfl) (fun _ _ _ h => h) (Or.inl ⟨by rfl, ?_⟩) (by assumption) ?_
        rotate_left
        focus ((intro w hSw; (try dsimp only at hSw); go_simp; try with_reducible rfl); done)
        (try simp only [Act.put, List.setIfInBounds_toArray, List.set_cons_zero, List.set_cons_succ, List.getElem_toArray, List.getElem_cons_zero, List.getElem_cons_succ])
        refine wpAnyH_take (i := 20) (oi := _) (v := ?_) rfl (by kernel_rfl) (by kernel_rfl) (by kernel_rfl) (fun _ _ _ h => h) (Or.inl ⟨by rfl, ?_⟩) (by assumption) ?_
        rotate_left
        focus ((intro w hSw; (try dsimp only at hSw); go_simp; try with_reducible rfl); done)
        (try simp only [Act.put, List.setIfInBounds_toArray, List.set_cons_zero, List.set_cons_succ, List.getElem_toArray, List.getElem_cons_zero, List.getElem_cons_succ])
        refine wpAnyH_take (i := 21) (oi := _) (v := ?_) rfl (by kernel_rfl) (by kernel_rfl) (by kernel_rfl) (fun _ _ _ h => h) (Or.inl ⟨by rfl, ?_⟩) (by assumption) ?_
        rotate_left
        focus ((intro w hSw; (try dsimp only at hSw); go_simp; try with_reducible rfl); done)
        (try simp only [Act.put, List.setIfInBounds_toArray, List.set_cons_zero, List.set_cons_succ, List.getElem_toArray, List.getElem_cons_zero, List.getElem_cons_succ])
        refine wpAnyH_take (i := 22) (oi := _) (v := ?_) rfl (by kernel_rfl) (by kernel_rfl) (by kernel_rfl) (fun _ _ _ h => h) (Or.inl ⟨by rfl, ?_⟩) (by assumption) ?_
        rotate_left
        focus ((intro w hSw; (try dsimp only at hSw); go_simp; try with_reducible rfl); done)
        (try simp only [Act.put, List.setIfInBounds_toArray, List.set_cons_zero, List.set_cons_succ, List.getElem_toArray, List.getElem_cons_zero, List.getElem_cons_succ])
        refine wpAnyH_take (i := 23) (oi := _) (v := ?_) rfl (by kernel_rfl) (by kernel_rfl) (by kernel_rfl) (fun _ _ _ h => h) (Or.inl ⟨by rfl, ?_⟩) (by assumption) ?_
        rotate_left
        focus ((intro w hSw; (try dsimp only at hSw); go_simp; try with_reducible rfl); done)
        (try simp only [Act.put, List.setIfInBounds_toArray, List.set_cons_zero, List.set_cons_succ, List.getElem_toArray, List.getElem_cons_zero, List.getElem_cons_succ])
        refine wpAnyH_take (i := 24) (oi := _) (v := ?_) rfl (by kernel_rfl) (by kernel_rfl) (by kernel_rfl) (fun _ _ _ h => h) (Or.inl ⟨by rfl, ?_⟩) (by assumption) ?_
        rotate_left
        focus ((intro w hSw; (try dsimp only at hSw); go_simp; try with_reducible rfl); done)
        (try simp only [Act.put, List.setIfInBounds_toArray, List.set_cons_zero, List.set_cons_succ, List.getElem_toArray, List.getElem_cons_zero, List.getElem_cons_succ])
        refine wpAnyH_take (i := 25) (oi := _) (v := ?_) rfl (by kernel_rfl) (by kernel_rfl) (by kernel_rfl) (fun _ _ _ h => h) (Or.inl ⟨by rfl, ?_⟩) (by assumption) ?_
        rotate_left
        focus ((intro w hSw; (try dsimp only at hSw); go_simp; try with_reducible rfl); done)
        (try simp only [Act.put, List.setIfInBounds_toArray, List.set_cons_zero, List.set_cons_succ, List.getElem_toArray, List.getElem_cons_zero, List.getElem_cons_succ])
        refine wpAnyH_take (i := 26) (oi := _) (v := ?_) rfl (by kernel_rfl) (by kernel_rfl) (by kernel_rfl) (fun _ _ _ h => h) (Or.inl ⟨by rfl, ?_⟩) (by assumption) ?_
        rotate_left
        focus ((intro w hSw; (try dsimp only at hSw); go_simp; try with_reducible rfl); done)
        (try simp only [Act.put, List.setIfInBounds_toArray, List.set_cons_zero, List.set_cons_succ, List.getElem_toArray, List.getElem_cons_zero, List.getElem_cons_succ])
        refine wpAnyH_take (i := 27) (oi := _) (v := ?_) rfl (by kernel_rfl) (by kernel_rfl) (by kernel_rfl) (fun _ _ _ h => h) (Or.inl ⟨by rfl, ?_⟩) (by assumption) ?_
        rotate_left
        focus ((intro w hSw; (try dsimp only at hSw); go_simp; try with_reducible rfl); done)
        (try simp only [Act.put, List.setIfInBounds_toArray, List.set_cons_zero, List.set_cons_succ, List.getElem_toArray, List.getElem_cons_zero, List.getElem_cons_succ])
        refine wpAnyH_take (i := 28) (oi := _) (v := ?_) rfl (by kernel_rfl) (by kernel_rfl) (by kernel_rfl) (fun _ _ _ h => h) (Or.inl ⟨by rfl, ?_⟩) (by assumption) ?_
        rotate_left
        focus ((intro w hSw; (try dsimp only at hSw); go_simp; try with_reducible rfl); done)
        (try simp only [Act.put, List.setIfInBounds_toArray, List.set_cons_zero, List.set_cons_succ, List.getElem_toArray, List.getElem_cons_zero, List.getElem_cons_succ])
        refine wpAnyH_take (i := 29) (oi := _) (v := ?_) rfl (by kernel_rfl) (by kernel_rfl) (by kernel_rfl) (fun _ _ _ h => h) (Or.inl ⟨by rfl, ?_⟩) (by assumption) ?_
        rotate_left
        focus ((intro w hSw; (try dsimp only at hSw); go_simp; try with_reducible rfl); done)
        (try simp only [Act.put, List.setIfInBounds_toArray, List.set_cons_zero, List.set_cons_succ, List.getElem_toArray, List.getElem_cons_zero, List.getElem_cons_succ])
        refine wpAnyH_take (i := 30) (oi := _) (v := ?_) rfl (by kernel_rfl) (by kernel_rfl) (by kernel_rfl) (fun _ _ _ h => h) (Or.inl ⟨by rfl, ?_⟩) (by assumption) ?_
        rotate_left
        focus ((intro w hSw; (try dsimp only at hSw); go_simp; try with_reducible rfl); done)
        (try simp only [Act.put, List.setIfInBounds_toArray, List.set_cons_zero, List.set_cons_succ, List.getElem_toArray, List.getElem_cons_zero, List.getElem_cons_succ])
        refine wpAnyH_take (i := 31) (oi := _) (v := ?_) rfl (by kernel_rfl) (by kernel_rfl) (by kernel_rfl) (fun _ _ _ h => h) (Or.inl ⟨by rfl, ?_⟩) (by assumption) ?_
        rotate_left
        focus ((intro w hSw; (try dsimp only at hSw); go_simp; try with_reducible rfl); done)
        (try simp only [Act.put, List.setIfInBounds_toArray, List.set_cons_zero, List.set_cons_succ, List.getElem_toArray, List.getElem_cons_zero, List.getElem_cons_succ])
        refine wpAnyH_take (i := 32) (oi := _) (v := ?_) rfl (by kernel_rfl) (by kernel_rfl) (by kernel_rfl) (fun _ _ _ h => h) (Or.inl ⟨by rfl, ?_⟩) (by assumption) ?_
        rotate_left
        focus ((intro w hSw; (try dsimp only at hSw); go_simp; try with_reducible rfl); done)
        (try simp only [Act.put, List.setIfInBounds_toArray, List.set_cons_zero, List.set_cons_succ, List.getElem_toArray, List.getElem_cons_zero, List.getElem_cons_succ])
        refine wpAnyH_take (i := 36) (oi := _) (v := ?_) rfl (by kernel_rfl) (by kernel_rfl) (by kernel_rfl) (fun _ _ _ h => h) (Or.inl ⟨by rfl, ?_⟩) (by assumption) ?_
        rotate_left
        focus ((intro w hSw; (try dsimp only at hSw); go_simp; try with_reducible rfl); done)
        (try simp only [Act.put, List.setIfInBounds_toArray, List.set_cons_zero, List.set_cons_succ, List.getElem_toArray, List.getElem_cons_zero, List.getElem_cons_succ])
        refine wpAnyH_ready (rs := [33]) (by kernel_rfl) (by simp) ?_
        refine AllReadyH.cons (o := _) rfl (fun K hK => ?_) AllReadyH.nil
        go_simp
        refine hK.out _ _ ?_ (fun hHeld4 => ?_)
        · (try dsimp only); (first | assumption | (refine HM.out _ ?_; first | assumption | exact And.right (by assumption) | exact (Below.refl _ _).drew))
        clear hK K
        (try simp only [Act.put, List.setIfInBounds_toArray, List.set_cons_zero, List.set_cons_succ, List.getElem_toArray, List.getElem_cons_zero, List.getElem_cons_succ])
        refine wpAnyH_take (i := 34) (oi := _) (v := ?_) rfl (by kernel_rfl) (by kernel_rfl) (by kernel_rfl) (fun _ _ _ h => h) (Or.inl ⟨by rfl, ?_⟩) (by assumption) ?_
        rotate_left
        focus ((intro w hSw; (try dsimp only at hSw); go_simp; try with_reducible rfl); done)
        (try simp only [Act.put, List.setIfInBounds_toArray, List.set_cons_zero, List.set_cons_succ, List.getElem_toArray, List.getElem_cons_zero, List.getElem_cons_succ])
        refine wpAnyH_take (i := 35) (oi := _) (v := ?_) rfl (by kernel_rfl) (by kernel_rfl) (by kernel_rfl) (fun _ _ _ h => h) (Or.inl ⟨by rfl, ?_⟩) (by assumption) ?_
        rotate_left
        focus ((intro w hSw; (try dsimp only at hSw); go_simp; try with_reducible rfl); done)
        (try simp only [Act.put, List.setIfInBounds_toArray, List.set_cons_zero, List.set_cons_succ, List.getElem_toArray, List.getElem_cons_zero, List.getElem_cons_succ])
        refine wpAnyH_take (i := 37) (oi := _) (v := ?_) rfl (by kernel_rfl) (by kernel_rfl) (by kernel_rfl) (fun _ _ _ h => h) (Or.inl ⟨by rfl, ?_⟩) (by assumption) ?_
        rotate_left
        focus ((intro w hSw; (try dsimp only at hSw); go_simp; try with_reducible rfl); done)
        (try simp only [Act.put, List.setIfInBounds_toArray, List.set_cons_zero, List.set_cons_succ, List.getElem_toArray, List.getElem_cons_zero, List.getElem_cons_succ])
        refine wpAnyH_take (i := 38) (oi := _) (v := ?_) rfl (by kernel_rfl) (by kernel_rfl) (by kernel_rfl) (fun _ _ _ h => h) (Or.inl ⟨by rfl, ?_⟩) (by assumption) ?_
        rotate_left
        focus ((intro w hSw; (try dsimp only at hSw); go_simp; try with_reducible rfl); done)
        (try simp only [Act.put, List.setIfInBounds_toArray, List.set_cons_zero, List.set_cons_succ, List.getElem_toArray, List.getElem_cons_zero, List.getElem_cons_succ])
        refine wpAnyH_take (i := 39) (oi := _) (v := ?_) rfl (by kernel_rfl) (by kernel_rfl) (by kernel_rfl) (fun _ _ _ h => h) (Or.inl ⟨by rfl, ?_⟩) (by assumption) ?_
        rotate_left
        focus ((intro w hSw; (try dsimp only at hSw); go_simp; try with_reducible rfl); done)
        (try simp only [Act.put, List.setIfInBounds_toArray, List.set_cons_zero, List.set_cons_succ, List.getElem_toArray, List.getElem_cons_zero, List.getElem_cons_succ])
        refine wpAnyH_ready (rs := [40]) (by kernel_rfl) (by simp) ?_
        refine AllReadyH.cons (o := _) rfl (fun K hK => ?_) AllReadyH.nil
        go_simp
        go_wp2_with (go_at_call 22; (with_reducible refine (kS _ (And.right (by assumption))).mono ?_); rintro e w10 ⟨rfl, hb10⟩; have S10 := HM.out w10 (bl_any (And.right (by assumption)) hb10))
        refine hK.out _ _ ?_ (fun hHeld5 => ?_)
        · (try dsimp only); (first | assumption | (refine HM.out _ ?_; first | assumption | exact And.right (by assumption) | exact (Below.refl _ _).drew))
        clear hK K
        (try simp only [Act.put, List.setIfInBounds_toArray, List.set_cons_zero, List.set_cons_succ, List.getElem_toArray, List.getElem_cons_zero, List.getElem_cons_succ])
        refine wpAnyH_take (i := 41) (oi := _) (v := ?_) rfl (by kernel_rfl) (by kernel_rfl) (by kernel_rfl) (fun _ _ _ h => h) (Or.inl ⟨by rfl, ?_⟩) (by assumption) ?_
        rotate_left
        focus ((intro w hSw; (try dsimp only at hSw); go_simp; try with_reducible rfl); done)
        (try simp only [Act.put, List.setIfInBounds_toArray, List.set_cons_zero, List.set_cons_succ, List.getElem_toArray, List.getElem_cons_zero, List.getElem_cons_succ])
        refine wpAnyH_take (i := 42) (oi := _) (v := ?_) rfl (by kernel_rfl) (by kernel_rfl) (by kernel_rfl) (fun _ _ _ h => h) (Or.inl ⟨by rfl, ?_⟩) (by assumption) ?_
        rotate_left
        focus ((intro w hSw; (try dsimp only at hSw); go_simp; try with_reducible rfl); done)
        (try simp only [Act.put, List.setIfInBounds_toArray, List.set_cons_zero, List.set_cons_succ, List.getElem_toArray, List.getElem_cons_zero, List.getElem_cons_succ])
        refine wpAnyH_take (i := 43) (oi := _) (v := ?_) rfl (by kernel_rfl) (by kernel_rfl) (by kernel_rfl) (fun _ _ _ h => h) (Or.inl ⟨by rfl, ?_⟩) (by assumption) ?_
        rotate_left
        focus ((intro w hSw; (try dsimp only at hSw); go_simp; try with_reducible rfl); done)
        (try simp only [Act.put, List.setIfInBounds_toArray, List.set_cons_zero, List.set_cons_succ, List.getElem_toArray, List.getElem_cons_zero, List.getElem_cons_succ])
        refine wpAnyH_take (i := 44) (oi := _) (v := ?_) rfl (by kernel_rfl) (by kernel_rfl) (by kernel_rfl) (fun _ _ _ h => h) (Or.inl ⟨by rfl, ?_⟩) (by assumption) ?_
        rotate_left
        focus ((intro w hSw; (try dsimp only at hSw); go_simp; try with_reducible rfl); done)
        (try simp only [Act.put, List.setIfInBounds_toArray, List.set_cons_zero, List.set_cons_succ, List.getElem_toArray, List.getElem_cons_zero, List.getElem_cons_succ])
        refine wpAnyH_take (i := 45) (oi := _) (v := ?_) rfl (by kernel_rfl) (by kernel_rfl) (by kernel_rfl) (fun _ _ _ h => h) (Or.inl ⟨by rfl, ?_⟩) (by assumption) ?_
        rotate_left
        focus ((intro w hSw; (try dsimp only at hSw); go_simp; try with_reducible rfl); done)
        (try simp only [Act.put, List.setIfInBounds_toArray, List.set_cons_zero, List.set_cons_succ, List.getElem_toArray, List.getElem_cons_zero, List.getElem_cons_succ])
        refine wpAnyH_take (i := 46) (oi := _) (v := ?_) rfl (by kernel_rfl) (by kernel_rfl) (by kernel_rfl) (fun _ _ _ h => h) (Or.inl ⟨by rfl, ?_⟩) (by assumption) ?_
        rotate_left
        focus ((intro w hSw; (try dsimp only at hSw); go_simp; try with_reducible rfl); done)
        (try simp only [Act.put, List.setIfInBounds_toArray, List.set_cons_zero, List.set_cons_succ, List.getElem_toArray, List.getElem_cons_zero, List.getElem_cons_succ])
        refine wpAnyH_take (i := 47) (oi := _) (v := ?_) rfl (by kernel_rfl) (by kernel_rfl) (by kernel_rfl) (fun _ _ _ h => h) (Or.inl ⟨by rfl, ?_⟩) (by assumption) ?_
        rotate_left
        focus ((intro w hSw; (try dsimp only at hSw); go_simp; try with_reducible rfl); done)
        (try simp only [Act.put, List.setIfInBounds_toArray, List.set_cons_zero, List.set_cons_succ, List.getElem_toArray, List.getElem_cons_zero, List.getElem_cons_succ])
        refine wpAnyH_take (i := 48) (oi := _) (v := undef) rfl (by kernel_rfl) (by kernel_rfl) (by kernel_rfl) (fun _ _ _ h => h) (Or.inr ⟨by rfl, rfl⟩) (by assumption) ?_
        (try simp only [Act.put, List.setIfInBounds_toArray, List.set_cons_zero, List.set_cons_succ, List.getElem_toArray, List.getElem_cons_zero, List.getElem_cons_succ])
        refine wpAnyH_take (i := 49) (oi := _) (v := undef) rfl (by kernel_rfl) (by kernel_rfl) (by kernel_rfl) (fun _ _ _ h => h) (Or.inr ⟨by rfl, rfl⟩) (by assumption) ?_
        (try simp only [Act.put, List.setIfInBounds_toArray, List.set_cons_zero, List.set_cons_succ, List.getElem_toArray, List.getElem_cons_zero, List.getElem_cons_succ])
        refine wpAnyH_take (i := 50) (oi := _) (v := undef) rfl (by kernel_rfl) (by kernel_rfl) (by kernel_rfl) (fun _ _ _ h => h) (Or.inr ⟨by rfl, rfl⟩) (by assumption) ?_
        (try simp only [Act.put, List.setIfInBounds_toArray, List.set_cons_zero, List.set_cons_succ, List.getElem_toArray, List.getElem_cons_zero, List.getElem_cons_succ])
        refine wpAnyH_take (i := 51) (oi := _) (v := undef) rfl (by kernel_rfl) (by kernel_rfl) (by kernel_rfl) (fun _ _ _ h => h) (Or.inr ⟨by rfl, rfl⟩) (by assumption) ?_
        (try simp only [Act.put, List.setIfInBounds_toArray, List.set_cons_zero, List.set_cons_succ, List.getElem_toArray, List.getElem_cons_zero, List.getElem_cons_succ])
        refine wpAnyH_take (i := 52) (oi := _) (v := ?_) rfl (by kernel_rfl) (by kernel_rfl) (by kernel_rfl) (fun _ _ _ h => h) (Or.inl ⟨by rfl, ?_⟩) (by assumption) ?_
        rotate_left
        focus ((intro w hSw; (try dsimp only at hSw); go_simp; try with_reducible rfl); done)
        (try simp only [Act.put, List.setIfInBounds_toArray, List.set_cons_zero, List.set_cons_succ, List.getElem_toArray, List.getElem_cons_zero, List.getElem_cons_succ])
        refine wpAnyH_take (i := 53) (oi := _) (v := ?_) rfl (by kernel_rfl) (by kernel_rfl) (by kernel_rfl) (fun _ _ _ h => h) (Or.inl ⟨by rfl, ?_⟩) (by assumption) ?_
        rotate_left
        focus ((intro w hSw; (try dsimp only at hSw); go_simp; try with_reducible rfl); done)
        (try simp only [Act.put, List.setIfInBounds_toArray, List.set_cons_zero, List.set_cons_succ, List.getElem_toArray, List.getElem_cons_zero, List.getElem_cons_succ])
        refine wpAnyH_done (by kernel_rfl) ?_ _
        all_goals
          have hP10 : PS w w10 p b q at_ (some ⟨b2, o2, none⟩) c2 m2 R2 := hP7.bel (And.right S10)
          have hN10 := hN7.bel (And.right S10)
          clear hP7 hB7 hN7 kC kR kS HM HC1 hcb hgb
          go_wp2_with fail
          go_loopw [13] (fun i wi => PS w wi p b q at_ (some ⟨b2, o2, none⟩) c2 m2 R2 ∧ IsRows strCell 1 wi wi.heap.size lA R2.length (R2.map VTen.name) ∧ ∃ j : Nat, j ≤ R2.length ∧ i = .int .i64 j) (fun i _ => R2.length - (intOf i).toNat)
          case atStart => exact ⟨hP10, hN10, 0, by omega, rfl⟩
          case round =>
            obtain ⟨hPj, hNj, j, hj, rfl⟩ := hrel
            clear hP10 hN10
            have g0 := (Blk.cell hPj.gw.blk 0).trans rfl
            by_cases hjl : j < R2.length
            · have hdj : decide ((j : Int) < (R2.length : Int)) = true := decide_eq_true (by omega)
              have hj0 : (0 : Int) ≤ j := by omega
              have hj1 : (j : Int) < (R2.length : Int) := by omega
              obtain ⟨bn, on, z, hlA, hbn, hz, z0⟩ := str_at hNj hjl
              obtain ⟨br, or_, hA2, hbr, hcr⟩ := hPj.gw.rows.2 (by omega)
              obtain ⟨u, hu⟩ : ∃ u, R2[j]? = some u := ⟨_, List.getElem?_eq_getElem hjl⟩
              have hzu : z = u.name := by rw [List.getElem?_map, hu] at hz; injection hz with hz; exact hz.symm
              have u0 : wr.cell? ⟨br, or_ + j * 11, none⟩ = some (.string u.name) := hcr j u 0 _ hu rfl
              subst hzu
              have g1 : wr.cell? ⟨q, 0, none⟩ = some (.slice (some ⟨br, or_, none⟩) R2.length c2) := by rw [← hA2]; exact g0
              have hlA' := Lib.hid hlA
              clear hz hu hcr g0 hA2
              rw [hlA]
              clear hlA
              go_wp2_with fail
              go_quiet (fail)
              go_wp2_with fail
              exact ⟨⟨hPj.bel (bl_drewN (Below.refl _ _) _), (show ∀ N : Nat, IsRows strCell 1 (wr.drewN N) (wr.drewN N).heap.size (some ⟨bn, on, none⟩) R2.length (R2.map VTen.name) from fun N => by have h := hNj.bel (bl_drewN (Below.refl _ _) N); rw [hlA'.out] at h; exact h) _, j + 1, by omega, rfl⟩, by (simp only [intOf]; omega)⟩
            · have hdj : decide ((j : Int) < (R2.length : Int)) = false := decide_eq_false (by omega)
              go_wp2_with fail
              exact ⟨⟨k + 1, m2, R2, (some ⟨b2, o2, none⟩), c2, by omega, rfl, hPj, HB2, hR2⟩, by (simp only [intOf]; omega)⟩
end Go.Proofs.Ytjffagffjcbolaa
