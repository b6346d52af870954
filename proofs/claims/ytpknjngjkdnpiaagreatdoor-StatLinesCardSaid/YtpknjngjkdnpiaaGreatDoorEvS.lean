/- The walk of polyglothelp.SameEvents, over events that are the same. -/
import Derived.Test.YtpknjngjkdnpiaaGreatDoorMgEvB
import Derived.Test.YtpknjngjkdnpiaaGreatDoorLabC
import Derived.BigRegion
import Derived.Deep.CutBlock
import Derived.Deep.CutRange
import Derived.Deep.QuietTactic
import Derived.BigQuiet
namespace Go.Proofs.YtpknjngjkdnpiaaGreatDoor
set_option linter.unusedVariables false
set_option linter.unusedSimpArgs false
open Go.RowKit
theorem neqDec (a b : Int) (w : World) : (binOp .neq 60 (.agg #[.int .i64 a, .int .i64 b]) (.agg #[.int .i64 a, .int .i64 b])).run Tryz.prog w = .ok (.bool false) w := by simp [go_sem]
/-- The cells of an event. -/
def EvAt (w : World) (b o : Nat) (e : MEv) (lA : Option Addr) (lc : Nat) : Prop :=
  w.cell? ⟨b, o, none⟩ = some (.string e.name) ∧ w.cell? ⟨b, o + 1, none⟩ = some (.slice lA e.labs.length lc) ∧ w.cell? ⟨b, o + 2, none⟩ = some (.int .i64 e.kind) ∧ w.cell? ⟨b, o + 3, none⟩ = some (.int .i64 e.val.1) ∧ w.cell? ⟨b, o + 4, none⟩ = some (.int .i64 e.val.2) ∧ w.cell? ⟨b, o + 5, none⟩ = some (.int .i64 e.rate.1) ∧ w.cell? ⟨b, o + 6, none⟩ = some (.int .i64 e.rate.2) ∧ w.cell? ⟨b, o + 7, none⟩ = some (.string e.mem_)
theorem HasEvs.evLen {w : World} {B : Nat} {A : Option Addr} {n : Nat} {evs : List MEv} (h : HasEvs w B A n evs) : evs.length = n := by
  obtain ⟨l, h1, h2, _⟩ := h
  rw [← h1, List.length_map]; exact h2.1
theorem HasEvs.evAt {w : World} {B : Nat} {A : Option Addr} {n : Nat} {evs : List MEv} (h : HasEvs w B A n evs) {i : Nat} {e : MEv} (hi : evs[i]? = some e) :
    ∃ b off lA lc, A = some ⟨b, off, none⟩ ∧ b < B ∧ EvAt w b (off + i * 8) e lA lc ∧ IsRows labCell 2 w B lA e.labs.length e.labs := by
  obtain ⟨l, h1, h2, h3⟩ := h
  rw [← h1, List.getElem?_map] at hi
  cases hx : l[i]? with
  | none => rw [hx] at hi; cases hi
  | some x =>
    rw [hx] at hi
    simp only [Option.map_some, Option.some.injEq] at hi
    subst hi
    have hm := List.mem_of_getElem? hx
    have hlt : i < l.length := (List.getElem?_eq_some_iff.1 hx).1
    obtain ⟨b, off, e, hb, hc⟩ := h2.2 (by have := h2.1; omega)
    refine ⟨b, off, x.A, x.cap, e, hb, ?_, h3 x hm⟩
    refine ⟨hc i x 0 _ hx rfl, ?_, ?_, ?_, ?_, ?_, ?_, ?_⟩
    · exact hc i x 1 _ hx rfl
    · exact hc i x 2 _ hx rfl
    · exact hc i x 3 _ hx rfl
    · exact hc i x 4 _ hx rfl
    · exact hc i x 5 _ hx rfl
    · exact hc i x 6 _ hx rfl
    · exact hc i x 7 _ hx rfl
/-- What of an event's copy is looked at later. -/
def CopE (w : World) (v : Value) (e : MEv) (lA : Option Addr) (lc : Nat) : Prop :=
  ∃ g, v = .pointer (some ⟨g, 0, none⟩) ∧ EvAt w g 0 e lA lc
theorem sameL_any (A : Option Addr) (n cap : Nat) (L : List Lab) (A2 : Option Addr) (n2 cap2 : Nat) (w : World) (hl : IsRows labCell 2 w w.heap.size A n L) (hn : n ≤ 4611686018427387904) (hm : IsRows labCell 2 w w.heap.size A2 n2 L) (hn2 : n2 ≤ 4611686018427387904) :
    Calls Tryz.prog 34 #[.slice A n cap, .slice A2 n2 cap2] w fun e w' => e = .returned (.bool true) ∧ Below w.heap.size w w' := by
  have k := refSame_any A n cap L A2 n2 cap2 L w hl hn hm hn2
  rw [(sameB_iff L L).2 rfl] at k
  exact k
set_option maxRecDepth 100000 in
set_option maxHeartbeats 6400000 in
theorem sameEvs_any (A1 A2 : Option Addr) (n1 n2 k1 k2 : Nat) (evs : List MEv) (w : World) (h1 : HasEvs w w.heap.size A1 n1 evs) (h2 : HasEvs w w.heap.size A2 n2 evs) (hn : n1 ≤ 1048576) (hlab : ∀ e ∈ evs, e.labs.length ≤ 1048576) :
    Calls Tryz.prog 18 #[.slice A1 n1 k1, .slice A2 n2 k2] w fun e w' => e = .returned (.bool true) ∧ Below w.heap.size w w' := by
  obtain rfl : n1 = n2 := h1.evLen.symm.trans h2.evLen
  have HL := Lib.hid h1.evLen
  have hnn : ((n1 : Int) != n1) = false := by simp
  go_enter Tryz.func18, Tryz.ntmps18
  go_wp2_with fail
  go_loopw [5] (fun i wr => Below w.heap.size w wr ∧ ∃ k : Nat, k ≤ n1 ∧ i = .int .i64 k) (fun i _ => n1 - (intOf i).toNat)
  case atStart => exact ⟨Below.refl _ _, 0, by omega, rfl⟩
  case round =>
    obtain ⟨hbw, k, hk, rfl⟩ := hrel
    by_cases hlt : k < n1
    case neg =>
      have hd : decide ((k : Int) < n1) = false := decide_eq_false (by omega)
      go_wp2_with fail
      go_ret
      exact ⟨rfl, hbw⟩
    case pos =>
      have hd : decide ((k : Int) < n1) = true := decide_eq_true (by omega)
      have hi0 : (0 : Int) ≤ k := by omega
      have hi1 : (k : Int) < n1 := by omega
      obtain ⟨R, hR⟩ : ∃ R, evs[k]? = some R := ⟨_, List.getElem?_eq_getElem (by rw [HL.out]; exact hlt)⟩
      obtain ⟨b1, off1, tA1, tc1, rfl, hb1, ⟨p0, p1, p2, p3, p4, p5, p6, p7⟩, ht1⟩ := (h1.below hbw).evAt hR
      obtain ⟨b2, off2, tA2, tc2, rfl, hb2, ⟨q0, q1, q2, q3, q4, q5, q6, q7⟩, ht2⟩ := (h2.below hbw).evAt hR
      have hz := hbw.size
      have hbl1 : b1 < wr.heap.size := by omega
      have hbl2 : b2 < wr.heap.size := by omega
      have hRm := hlab R (List.mem_of_getElem? hR)
      clear hR
      obtain ⟨wo, rfl⟩ : ∃ wo, wo = wr := ⟨_, rfl⟩
      go_upto_region 6 with fail
      go_cut [6, 7] from 13 to 67 (fun x y wx => CopE wx x R tA1 tc1 ∧ CopE wx y R tA2 tc2 ∧ Below wo.heap.size wo wx)
      case first =>
        go_region
        all_goals
          go_wp2_with fail
          go_meet
          refine ⟨⟨_, rfl, ?_⟩, ⟨_, rfl, ?_⟩, ?_⟩
          · simp [EvAt, go_sem]
          · simp [EvAt, go_sem]
          · exact (((Below.refl _ _).alloc (Nat.le_refl _) _).alloc (by simp) _).drew
      case rest =>
        obtain ⟨⟨gx, rfl, hx⟩, ⟨gy, rfl, hy⟩, hb⟩ := hcut
        obtain ⟨x0, x1, x2, x3, x4, x5, x6, x7⟩ := hx
        obtain ⟨y0, y1, y2, y3, y4, y5, y6, y7⟩ := hy
        rw [Nat.zero_add] at x1 x2 x3 x4 x5 x6 x7 y1 y2 y3 y4 y5 y6 y7
        have HT1 := (ht1.below (hb.mono hz)).more (show w.heap.size ≤ wc.heap.size by have := hb.size; omega)
        have HT2 := (ht2.below (hb.mono hz)).more (show w.heap.size ≤ wc.heap.size by have := hb.size; omega)
        clear ht1 ht2 p0 p1 p2 p3 p4 p5 p6 p7 q0 q1 q2 q3 q4 q5 q6 q7
        have hbw2 : Below w.heap.size w wc := hbw.trans (hb.mono hz)
        have kS := sameL_any tA1 R.labs.length tc1 R.labs tA2 R.labs.length tc2 wc HT1 (by omega) HT2 (by omega)
        have e1 := fun a b w => neqDec a b w
        clear HT1 HT2 hb h1 h2
        go_wp2_with (go_at_call 34; refine kS.mono ?_; rintro e w4 ⟨rfl, hb4⟩)
        exact ⟨⟨bl_any hbw2 hb4, k + 1, by omega, rfl⟩, by (simp only [intOf]; omega)⟩
end Go.Proofs.YtpknjngjkdnpiaaGreatDoor
