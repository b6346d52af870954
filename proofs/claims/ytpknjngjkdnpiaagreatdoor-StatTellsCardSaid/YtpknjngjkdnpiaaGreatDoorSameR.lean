/- The walk of polyglothelp.SameRows, over rows that are the same. -/
import Derived.Test.YtpknjngjkdnpiaaGreatDoorRowsK
import Derived.BigRegion
import Derived.Deep.CutBlock
import Derived.Deep.CutRange
import Derived.Deep.QuietTactic
import Derived.BigQuiet
namespace Go.Proofs.YtpknjngjkdnpiaaGreatDoor
set_option linter.unusedVariables false
set_option linter.unusedSimpArgs false
open Go.RowKit
theorem neqTag (a b : ByteArray) (c d : Int) (w : World) : (binOp .neq 78 (.agg #[.string a, .string b, .int .i64 c, .int .i64 d]) (.agg #[.string a, .string b, .int .i64 c, .int .i64 d])).run Tryz.prog w = .ok (.bool false) w := by simp [go_sem]
theorem neqField (a b : ByteArray) (c d e : Int) (w : World) : (binOp .neq 80 (.agg #[.string a, .string b, .int .i64 c, .int .i64 d, .int .i64 e]) (.agg #[.string a, .string b, .int .i64 c, .int .i64 d, .int .i64 e])).run Tryz.prog w = .ok (.bool false) w := by simp [go_sem]
/-- The cells of a row in a slice. -/
def RowAt (w : World) (b o : Nat) (R : MRow) (tA : Option Addr) (tc : Nat) (fA : Option Addr) (fc : Nat) : Prop :=
  w.cell? ⟨b, o, none⟩ = some (.int .i64 R.kind) ∧ w.cell? ⟨b, o + 1, none⟩ = some (.string R.name) ∧ w.cell? ⟨b, o + 2, none⟩ = some (.int .i64 R.off) ∧ w.cell? ⟨b, o + 3, none⟩ = some (.slice tA R.tags.length tc) ∧ w.cell? ⟨b, o + 4, none⟩ = some (.slice fA R.fields.length fc) ∧ w.cell? ⟨b, o + 5, none⟩ = some (.string R.text) ∧ w.cell? ⟨b, o + 6, none⟩ = some (.int .i64 R.pos) ∧ w.cell? ⟨b, o + 7, none⟩ = some (.bool R.timed) ∧ w.cell? ⟨b, o + 8, none⟩ = some (.string R.time) ∧ w.cell? ⟨b, o + 9, none⟩ = some (.int .i64 R.when_)
theorem HasRows.len {w : World} {B : Nat} {A : Option Addr} {n : Nat} {rows : List MRow} (h : HasRows w B A n rows) : rows.length = n := by
  obtain ⟨l, h1, h2, _⟩ := h
  rw [← h1, List.length_map]; exact h2.1
theorem HasRows.at_ {w : World} {B : Nat} {A : Option Addr} {n : Nat} {rows : List MRow} (h : HasRows w B A n rows) {i : Nat} {R : MRow} (hi : rows[i]? = some R) :
    ∃ b off tA tc fA fc, A = some ⟨b, off, none⟩ ∧ b < B ∧ RowAt w b (off + i * 10) R tA tc fA fc ∧ IsRows tagCell 4 w B tA R.tags.length R.tags ∧ IsRows fieldCell 5 w B fA R.fields.length R.fields := by
  obtain ⟨l, h1, h2, h3⟩ := h
  rw [← h1, List.getElem?_map] at hi
  cases hx : l[i]? with
  | none => rw [hx] at hi; cases hi
  | some x =>
    rw [hx] at hi
    simp only [Option.map_some, Option.some.injEq] at hi
    subst hi
    have hm := List.mem_of_getElem? hx
    have hlt : i < l.length := (List.getElem?_eq_some_iff.1 hx).1
    obtain ⟨b, off, e, hb, hc⟩ := h2.2 (by have := h2.1; omega)
    refine ⟨b, off, x.tA, x.tc, x.fA, x.fc, e, hb, ?_, (h3 x hm).1, (h3 x hm).2⟩
    refine ⟨hc i x 0 _ hx rfl, ?_, ?_, ?_, ?_, ?_, ?_, ?_, ?_, ?_⟩
    · exact hc i x 1 _ hx rfl
    · exact hc i x 2 _ hx rfl
    · exact hc i x 3 _ hx rfl
    · exact hc i x 4 _ hx rfl
    · exact hc i x 5 _ hx rfl
    · exact hc i x 6 _ hx rfl
    · exact hc i x 7 _ hx rfl
    · exact hc i x 8 _ hx rfl
    · exact hc i x 9 _ hx rfl
theorem IsRows.tag {w : World} {B : Nat} {A : Option Addr} {n : Nat} {l : List MTag} (h : IsRows tagCell 4 w B A n l) {i : Nat} {t : MTag} (hi : l[i]? = some t) :
    ∃ b off, A = some ⟨b, off, none⟩ ∧ b < B ∧ w.cell? ⟨b, off + i * 4, none⟩ = some (.string t.name) ∧ w.cell? ⟨b, off + i * 4 + 1, none⟩ = some (.string t.value) ∧ w.cell? ⟨b, off + i * 4 + 2, none⟩ = some (.int .i64 t.off) ∧ w.cell? ⟨b, off + i * 4 + 3, none⟩ = some (.int .i64 t.pos) := by
  obtain ⟨b, off, e, hb, hc⟩ := h.2 (by have := h.1; have := (List.getElem?_eq_some_iff.1 hi).1; omega)
  exact ⟨b, off, e, hb, hc i t 0 _ hi rfl, hc i t 1 _ hi rfl, hc i t 2 _ hi rfl, hc i t 3 _ hi rfl⟩
theorem IsRows.fld {w : World} {B : Nat} {A : Option Addr} {n : Nat} {l : List MField} (h : IsRows fieldCell 5 w B A n l) {i : Nat} {t : MField} (hi : l[i]? = some t) :
    ∃ b off, A = some ⟨b, off, none⟩ ∧ b < B ∧ w.cell? ⟨b, off + i * 5, none⟩ = some (.string t.name) ∧ w.cell? ⟨b, off + i * 5 + 1, none⟩ = some (.string t.value) ∧ w.cell? ⟨b, off + i * 5 + 2, none⟩ = some (.int .i64 t.off) ∧ w.cell? ⟨b, off + i * 5 + 3, none⟩ = some (.int .i64 t.pos) ∧ w.cell? ⟨b, off + i * 5 + 4, none⟩ = some (.int .i64 t.kind) := by
  obtain ⟨b, off, e, hb, hc⟩ := h.2 (by have := h.1; have := (List.getElem?_eq_some_iff.1 hi).1; omega)
  exact ⟨b, off, e, hb, hc i t 0 _ hi rfl, hc i t 1 _ hi rfl, hc i t 2 _ hi rfl, hc i t 3 _ hi rfl, hc i t 4 _ hi rfl⟩
/-- What of a row's copy is looked at later. -/
def Cop (w : World) (v : Value) (R : MRow) (tA : Option Addr) (tc : Nat) (fA : Option Addr) (fc : Nat) : Prop :=
  ∃ g, v = .pointer (some ⟨g, 0, none⟩) ∧ RowAt w g 0 R tA tc fA fc
set_option maxRecDepth 100000 in
set_option maxHeartbeats 6400000 in
theorem sameRows_any (A1 A2 : Option Addr) (n1 n2 k1 k2 : Nat) (rows : List MRow) (w : World) (h1 : HasRows w w.heap.size A1 n1 rows) (h2 : HasRows w w.heap.size A2 n2 rows) (hn : n1 ≤ 1048576) (hrow : ∀ R ∈ rows, R.tags.length ≤ 1048576 ∧ R.fields.length ≤ 1048576) :
    Calls Tryz.prog 13 #[.slice A1 n1 k1, .slice A2 n2 k2] w fun e w' => e = .returned (.bool true) ∧ Below w.heap.size w w' := by
  obtain rfl : n1 = n2 := h1.len.symm.trans h2.len
  have HL := Lib.hid h1.len
  have hrow := fun R h => hrow R h
  have hnn : ((n1 : Int) != n1) = false := by simp
  go_enter Tryz.func13, Tryz.ntmps13
  go_wp2_with fail
  go_loopw [5] (fun i wr => Below w.heap.size w wr ∧ ∃ k : Nat, k ≤ n1 ∧ i = .int .i64 k) (fun i _ => n1 - (intOf i).toNat)
  case atStart => exact ⟨Below.refl _ _, 0, by omega, rfl⟩
  case round =>
    obtain ⟨hbw, k, hk, rfl⟩ := hrel
    by_cases hlt : k < n1
    case neg =>
      have hd : decide ((k : Int) < n1) = false := decide_eq_false (by omega)
      go_wp2_with fail
      go_ret
      exact ⟨rfl, hbw⟩
    case pos =>
      have hd : decide ((k : Int) < n1) = true := decide_eq_true (by omega)
      have hi0 : (0 : Int) ≤ k := by omega
      have hi1 : (k : Int) < n1 := by omega
      obtain ⟨R, hR⟩ : ∃ R, rows[k]? = some R := ⟨_, List.getElem?_eq_getElem (by rw [HL.out]; exact hlt)⟩
      obtain ⟨b1, off1, tA1, tc1, fA1, fc1, rfl, hb1, ⟨p0, p1, p2, p3, p4, p5, p6, p7, p8, p9⟩, ht1, hf1⟩ := (h1.below hbw).at_ hR
      obtain ⟨b2, off2, tA2, tc2, fA2, fc2, rfl, hb2, ⟨q0, q1, q2, q3, q4, q5, q6, q7, q8, q9⟩, ht2, hf2⟩ := (h2.below hbw).at_ hR
      have hz := hbw.size
      have hbl1 : b1 < wr.heap.size := by omega
      have hbl2 : b2 < wr.heap.size := by omega
      have hRm := hrow R (List.mem_of_getElem? hR)
      clear hR
      obtain ⟨wo, rfl⟩ : ∃ wo, wo = wr := ⟨_, rfl⟩
      go_upto_region 6 with fail
      go_cut [6, 7] from 15 to 136 (fun x y wx => Cop wx x R tA1 tc1 fA1 fc1 ∧ Cop wx y R tA2 tc2 fA2 fc2 ∧ Below wo.heap.size wo wx)
      case first =>
        go_region
        all_goals
          go_wp2_with fail
          go_meet
          refine ⟨⟨_, rfl, ?_⟩, ⟨_, rfl, ?_⟩, ?_⟩
          · simp [RowAt, go_sem]
          · simp [RowAt, go_sem]
          · exact (((Below.refl _ _).alloc (Nat.le_refl _) _).alloc (by simp) _).drew
      case rest =>
        obtain ⟨⟨gx, rfl, hx⟩, ⟨gy, rfl, hy⟩, hb⟩ := hcut
        obtain ⟨x0, x1, x2, x3, x4, x5, x6, x7, x8, x9⟩ := hx
        obtain ⟨y0, y1, y2, y3, y4, y5, y6, y7, y8, y9⟩ := hy
        rw [Nat.zero_add] at x1 x2 x3 x4 x5 x6 x7 x8 x9 y1 y2 y3 y4 y5 y6 y7 y8 y9
        have HT1 := ht1.below (hb.mono hz)
        have HT2 := ht2.below (hb.mono hz)
        have HF1 := hf1.below (hb.mono hz)
        have HF2 := hf2.below (hb.mono hz)
        clear ht1 ht2 hf1 hf2 p0 p1 p2 p3 p4 p5 p6 p7 p8 p9 q0 q1 q2 q3 q4 q5 q6 q7 q8 q9
        have hbw2 : Below w.heap.size w wc := hbw.trans (hb.mono hz)
        obtain ⟨wi, rfl⟩ : ∃ wi, wi = wc := ⟨_, rfl⟩
        go_upto_block 2 with fail
        clear x0 x1 x2 x5 x6 x7 x8 x9 y0 y1 y2 y5 y6 y7 y8 y9 hd hi0 hi1
        have e1 := fun a b c d w => neqTag a b c d w
        have e2 := fun a b c d e w => neqField a b c d e w
        go_wp2_with fail
        go_loopw [8] (fun j wr => (∃ q, wr = wi.drewN q) ∧ ∃ m : Nat, m ≤ R.tags.length ∧ j = .int .i64 m) (fun j _ => R.tags.length - (intOf j).toNat)
        case atStart => exact ⟨⟨0, rfl⟩, 0, by omega, rfl⟩
        case round =>
          obtain ⟨⟨q, rfl⟩, m, hm, rfl⟩ := hrel
          by_cases hlm : m < R.tags.length
          case pos =>
            have hd : decide ((m : Int) < R.tags.length) = true := decide_eq_true (by omega)
            have hj0 : (0 : Int) ≤ m := by omega
            have hj1 : (m : Int) < R.tags.length := by omega
            have ht : R.tags[m]? = some (R.tags[m]'hlm) := List.getElem?_eq_getElem hlm
            obtain ⟨c1, o1, rfl, _, p0, p1, p2, p3⟩ := HT1.tag ht
            obtain ⟨c2, o2, rfl, _, q0, q1, q2, q3⟩ := HT2.tag ht
            generalize R.tags[m]'hlm = t at p0 p1 p2 p3 q0 q1 q2 q3
            clear ht
            go_wp2_with fail
            go_quiet (fail)
            go_wp2_with fail
            exact ⟨⟨⟨_, rfl⟩, m + 1, by omega, rfl⟩, by (simp only [intOf]; omega)⟩
          case neg =>
            have hd : decide ((m : Int) < R.tags.length) = false := decide_eq_false (by omega)
            go_wp2_with fail
            go_loopw [9] (fun j wr => (∃ q, wr = wi.drewN q) ∧ ∃ m : Nat, m ≤ R.fields.length ∧ j = .int .i64 m) (fun j _ => R.fields.length - (intOf j).toNat)
            case atStart => exact ⟨⟨_, rfl⟩, 0, by omega, rfl⟩
            case round =>
              clear hd
              obtain ⟨⟨q2, rfl⟩, m2, hm2, rfl⟩ := hrel
              by_cases hlm2 : m2 < R.fields.length
              case pos =>
                have hd : decide ((m2 : Int) < R.fields.length) = true := decide_eq_true (by omega)
                have hj0 : (0 : Int) ≤ m2 := by omega
                have hj1 : (m2 : Int) < R.fields.length := by omega
                have ht : R.fields[m2]? = some (R.fields[m2]'hlm2) := List.getElem?_eq_getElem hlm2
                obtain ⟨c1, o1, rfl, _, p0, p1, p2, p3, p4⟩ := HF1.fld ht
                obtain ⟨c2, o2, rfl, _, q0, q1, q2, q3, q4⟩ := HF2.fld ht
                generalize R.fields[m2]'hlm2 = t at p0 p1 p2 p3 p4 q0 q1 q2 q3 q4
                clear ht
                go_wp2_with fail
                go_quiet (fail)
                go_wp2_with fail
                exact ⟨⟨⟨_, rfl⟩, m2 + 1, by omega, rfl⟩, by (simp only [intOf]; omega)⟩
              case neg =>
                have hd : decide ((m2 : Int) < R.fields.length) = false := decide_eq_false (by omega)
                go_wp2_with fail
                exact ⟨⟨bl_drewN hbw2 _, k + 1, by omega, rfl⟩, by (simp only [intOf]; omega)⟩
end Go.Proofs.YtpknjngjkdnpiaaGreatDoor
