/- The walk of StatLines. -/
import Derived.Test.YtpknjngjkdnpiaaGreatDoorMgEvB
import Derived.Test.YtpknjngjkdnpiaaGreatDoorEvG2
import Derived.Test.YtpknjngjkdnpiaaGreatDoorEvS
import Derived.Test.YtpknjngjkdnpiaaGreatDoorLineEv
import Derived.Test.YtpknjngjkdnpiaaGreatDoorSpot
namespace Go.Proofs.YtpknjngjkdnpiaaGreatDoor
set_option linter.unusedVariables false
set_option linter.unusedSimpArgs false
open Go.RowKit
theorem read_line {s : ByteArray} {a i : Nat} {es : List MEv} (h : EvLines s.data.toList a es) (hs : s.size ≤ 4000) (ha : a ≤ i) (hi : i < s.size) (hb : bt s.data.toList i = 10) (hn : ∀ k, a ≤ k → k < i → bt s.data.toList k ≠ 10) :
    ∃ e es', es = e :: es' ∧ EvLines s.data.toList (i + 1) es' ∧ readS (s.extract a (i + 1)) = .ok [e] := by
  obtain ⟨e, es', R, h1, h2, h3, h4⟩ := ev_next h ha (by simpa using hi) hb hn
  refine ⟨e, es', h1, h2, ?_⟩
  have hz : (s.extract a (i + 1)).size = i + 1 - a := by rw [ByteArray.size_extract]; omega
  refine read_one (R := R) (by omega) ?_ (by omega) h4
  rw [ext_bytes, hz]
  exact h3
theorem clamp_clamp (n : Nat) (o : Int) : clampO n (clampO n o) = clampO n o := by unfold clampO; omega
/-- A fault told by At is one of its text. -/
theorem good_at (c o : Int) (s : ByteArray) : goodB c (fltO c s o) (fltL c s o) (fltC c s o) s = true := by
  have e1 : fltO c s (fltO c s o) = fltO c s o := by
    unfold fltO spotO; split
    · rfl
    · exact clamp_clamp _ _
  have e2 : fltL c s (fltO c s o) = fltL c s o := by
    unfold fltL fltO spotL spotO; split
    · rfl
    · rw [clamp_clamp]
  have e3 : fltC c s (fltO c s o) = fltC c s o := by
    unfold fltC fltO spotC spotO; split
    · rfl
    · rw [clamp_clamp]
  unfold goodB
  rw [e1, e2, e3]
  simp
theorem HasEvs.cap {w : World} {B : Nat} {A : Option Addr} {n : Nat} {evs : List MEv} (h : HasEvs w B A n evs) (hn : 0 < n) : ∃ b off, A = some ⟨b, off, none⟩ := by
  obtain ⟨l, h1, h2, _⟩ := h
  obtain ⟨b, off, e, _⟩ := h2.2 hn
  exact ⟨b, off, e⟩
/-- One event out of a slice of them. -/
theorem HasEvs.one {w : World} {B : Nat} {b off : Nat} {n : Nat} {evs : List MEv} (h : HasEvs w B (some ⟨b, off, none⟩) n evs) {k : Nat} {e : MEv} (hk : evs[k]? = some e) : HasEvs w B (some ⟨b, off + k * 8, none⟩) 1 [e] := by
  obtain ⟨l, h1, h2, h3⟩ := h
  rw [← h1, List.getElem?_map] at hk
  cases hx : l[k]? with
  | none => rw [hx] at hk; cases hk
  | some x =>
    rw [hx] at hk
    simp only [Option.map_some, Option.some.injEq] at hk
    subst hk
    have hm := List.mem_of_getElem? hx
    have hlt : k < l.length := (List.getElem?_eq_some_iff.1 hx).1
    refine ⟨[x], rfl, ⟨rfl, fun _ => ?_⟩, fun y hy => by rw [List.mem_singleton.1 hy]; exact h3 x hm⟩
    obtain ⟨b', off', e, hb, hc⟩ := h2.2 (by have := h2.1; omega)
    cases e
    refine ⟨_, _, rfl, hb, fun i y j v hi hv => ?_⟩
    have h0 : i = 0 := by
      have := (List.getElem?_eq_some_iff.1 hi).1
      simpa using this
    subst h0
    obtain rfl : x = y := by simpa using hi
    have := hc k x j v hx hv
    rw [show off + k * 8 + (0 * 8 + j) = off + (k * 8 + j) by omega]
    exact this
theorem HasEvs.al {w : World} {A : Option Addr} {n : Nat} {evs : List MEv} (h : HasEvs w w.heap.size A n evs) {o : Obj} : HasEvs (w.alloc o) (w.alloc o).heap.size A n evs :=
  (h.below ((Below.refl _ _).alloc (Nat.le_refl _) _)).more (by simp)
theorem HasEvs.next {w w' : World} {A : Option Addr} {n : Nat} {evs : List MEv} (h : HasEvs w w.heap.size A n evs) (k : Below w.heap.size w w') : HasEvs w' w'.heap.size A n evs := (h.below k).more k.size
theorem bl_on {B : Nat} {w0 w w' : World} (h : Below B w0 w) (k : Below w.heap.size w w') (hb : B ≤ w.heap.size) : Below B w0 w' := h.trans (k.mono hb)
theorem bl_on_alloc {B : Nat} {w0 w : World} (h : Below B w0 w) (hb : B ≤ w.heap.size) (o : Obj) : Below B w0 (w.alloc o) := h.alloc hb o
theorem drop_next {α : Type} {l : List α} {n : Nat} {e : α} {es : List α} (h : l.drop n = e :: es) : l[n]? = some e ∧ l.drop (n + 1) = es ∧ n < l.length := by
  have hn : n < l.length := by
    rcases Nat.lt_or_ge n l.length with h1 | h1
    · exact h1
    · rw [List.drop_of_length_le h1] at h; cases h
  rw [List.drop_eq_getElem_cons hn] at h
  injection h with h1 h2
  exact ⟨by rw [← h1]; exact List.getElem?_eq_getElem hn, h2, hn⟩
set_option maxRecDepth 100000 in
set_option maxHeartbeats 6400000 in
theorem lines26_any (s : ByteArray) (w : World) (hs : s.size ≤ 9223372036854775807) :
    Calls Tryz.prog 8 #[.string s] w fun e w' => e = .returned (.bool true) ∧ Below w.heap.size w w' := by
  by_cases h1500 : 1500 < s.size
  · have hd1 : decide ((1500 : Int) < s.size) = true := decide_eq_true (by omega)
    go_enter Tryz.func8, Tryz.ntmps8
    go_wp2_with (go_at_call 9; refine (known26_any _).mono ?_; rintro e w1 ⟨rfl, hb1⟩)
    go_ret
    exact ⟨rfl, hb1⟩
  have hd1 : decide ((1500 : Int) < s.size) = false := decide_eq_false (by omega)
  have hz : s.size ≤ 1500 := by omega
  have hL : s.data.toList.length = s.size := by simp
  have kR := fun W => sread26c_any s W (by omega)
  cases hR : readS s with
  | error x =>
    have hc := read_code hR
    rw [hR] at kR
    simp only [ReadC] at kR
    obtain ⟨c, o⟩ := x
    simp only at hc kR
    have hcb : ((c : Int) != 0) = true := by simp; omega
    have kG := fun W => good_any (c : Int) (fltO c s o) (fltL c s o) (fltC c s o) s W (by omega)
    rw [good_at] at kG
    generalize fltO c s o = fo at *
    generalize fltL c s o = fl at *
    generalize fltC c s o = fc at *
    clear hR hL
    go_enter Tryz.func8, Tryz.ntmps8
    go_wp2_with (first
      | (go_at_call 9; refine (known26_any _).mono ?_; rintro e w1 ⟨rfl, hb1⟩)
      | (go_at_call 15; (with_reducible refine (kR _).mono ?_); rintro en w2 ⟨rfl, hb2⟩)
      | (go_at_call 21; (with_reducible refine (kG _).mono ?_); rintro en w3 ⟨rfl, hb3⟩))
    go_ret
    exact ⟨rfl, bl_any (bl_alloc (bl_any hb1 hb2) _) hb3⟩
  | ok evs =>
    have hE := read_lines hR
    have hlab := read_labs hR
    rw [hR] at kR
    simp only [ReadC] at kR
    have HE := Lib.hid hE
    have HB := Lib.hid hlab
    have HL := Lib.hid hL
    clear hR hE hlab hL
    go_enter Tryz.func8, Tryz.ntmps8
    go_upto_region 8 with (first
      | (go_at_call 9; refine (known26_any _).mono ?_; rintro e w1 ⟨rfl, hb1⟩)
      | (go_at_call 15; (with_reducible refine (kR _).mono ?_); rintro en w2 ⟨⟨A, n, cap, rfl, hcap, hcap2, hev⟩, hb2⟩))
    have hbl : Below w.heap.size w (w2.alloc (.cells #[.int .i64 0, .int .i64 0, .int .i64 0, .int .i64 0] 42)) := bl_alloc (bl_any hb1 hb2) _
    have hev2 : HasEvs (w2.alloc (.cells #[.int .i64 0, .int .i64 0, .int .i64 0, .int .i64 0] 42)) w2.heap.size A n evs := hev.below ((Below.refl _ _).alloc (Nat.le_refl _) _)
    have hwz : w2.heap.size ≤ (w2.alloc (.cells #[.int .i64 0, .int .i64 0, .int .i64 0, .int .i64 0] 42)).heap.size := by simp
    have hwz0 : w.heap.size ≤ w2.heap.size := (bl_any hb1 hb2).size
    have hlen := hev.evLen
    generalize w2.alloc (.cells #[.int .i64 0, .int .i64 0, .int .i64 0, .int .i64 0] 42) = W2 at *
    generalize w2.heap.size = B at *
    clear hev hb1 hb2 kR
    have hmx : maxLen ≤ 9223372036854775807 := by decide
    go_wp2_with fail
    go_loopw [5, 6, 7] (fun v5 v6 v7 wr => (Below B W2 wr ∧ Below w.heap.size w wr) ∧ ∃ a m i : Nat, v5 = .int .i64 (a : Int) ∧ v6 = .int .i64 (m : Int) ∧ v7 = .int .i64 (i : Int) ∧ a ≤ i ∧ i ≤ s.size ∧ m ≤ n ∧ Hid (EvLines s.data.toList a (evs.drop m)) ∧ Hid (∀ k, a ≤ k → k < i → bt s.data.toList k ≠ 10)) (fun _ _ v7 _ => s.size - (intOf v7).toNat)
    case atStart => exact ⟨⟨Below.refl _ _, hbl⟩, 0, 0, 0, rfl, rfl, rfl, by omega, by omega, by omega, by simpa using HE, Lib.hid (fun k h1 h2 => by omega)⟩
    case round =>
      obtain ⟨⟨hbB, hbw⟩, a, m, i, rfl, rfl, rfl, hai, his, hmn, HV, HN⟩ := hrel
      by_cases hi : i < s.size
      case neg =>
        have hd : decide ((i : Int) < s.size) = false := decide_eq_false (by omega)
        obtain rfl : i = s.size := by omega
        obtain ⟨e1, e2⟩ := ev_end HV.out (by rw [HL.out]; exact hai) (fun k h1 h2 => HN.out k h1 (by rw [← HL.out]; exact h2))
        rw [HL.out] at e1
        have e3 : m = n := by
          have h4 := List.length_drop (l := evs) (i := m)
          rw [e2, hlen] at h4
          simp at h4
          omega
        subst e1 e3
        have hq1 : ((m : Int) == (m : Int)) = true := by simp
        have hq2 : ((s.size : Int) == (s.size : Int)) = true := by simp
        go_wp2_with fail
        go_ret
        exact ⟨rfl, hbw⟩
      case pos =>
        have hd : decide ((i : Int) < s.size) = true := decide_eq_true (by omega)
        have hi0 : (0 : Int) ≤ i := by omega
        have hi1 : (i : Int) < s.size := by omega
        by_cases hb : bt s.data.toList i = 10
        case neg =>
          have HN2 : Hid (∀ k, a ≤ k → k < i + 1 → bt s.data.toList k ≠ 10) := Lib.hid (fun k h1 h2 => by
            rcases Nat.lt_or_ge k i with h3 | h3
            · exact HN.out k h1 h3
            · obtain rfl : k = i := by omega
              exact hb)
          have hg := getElem_bt hi
          have hne : (bt s.data.toList i != 10) = true := by simpa using hb
          generalize bt s.data.toList i = C at *
          go_wp2_with fail
          exact ⟨⟨⟨hbB, hbw⟩, a, m, i + 1, rfl, rfl, rfl, by omega, by omega, hmn, HV, HN2⟩, by (simp only [intOf]; omega)⟩
        case pos =>
          obtain ⟨e, es, h1, h2, h3⟩ := read_line HV.out (by omega) hai hi hb HN.out
          obtain ⟨h4, h5, h6⟩ := drop_next h1
          rw [← h5] at h2
          have HV2 := Lib.hid h2
          have hsz : (s.extract a (i + 1)).size ≤ 1500 := by rw [ByteArray.size_extract]; omega
          have kR := fun W => sread26c_any (s.extract a (i + 1)) W (by omega)
          rw [h3] at kR
          simp only [ReadC] at kR
          have hl8 := HB.out e (List.mem_of_getElem? h4)
          have hm1 : m < n := by omega
          obtain ⟨b, off, rfl⟩ := hev2.cap (by omega)
          have hBz : B ≤ wr.heap.size := by have := hbB.size; omega
          have hone := ((hev2.below hbB).one h4).more hBz
          have hlab1 : ∀ y ∈ [e], y.labs.length ≤ 1048576 := fun y hy => by rw [List.mem_singleton.1 hy]; omega
          clear h1 h2 h3 h5
          have hg := getElem_bt hi
          rw [hb] at hg
          have ha0 : (0 : Int) ≤ a := by omega
          have ha1 : (a : Int) ≤ (i : Int) + 1 := by omega
          have hi2 : (i : Int) + 1 ≤ s.size := by omega
          have hm0 : (0 : Int) ≤ m := by omega
          have hm2 : (m : Int) ≤ (m : Int) + 1 := by omega
          have hm3 : (m : Int) + 1 ≤ cap := by omega
          have hm4 : decide ((n : Int) ≤ m) = false := decide_eq_false (by omega)
          have hw1 : IntKind.i64.wrap ((i : Int) + 1) = (i : Int) + 1 := IntWalk.i64_in _ (by omega)
          have hw2 : IntKind.i64.wrap ((m : Int) + 1) = (m : Int) + 1 := IntWalk.i64_in _ (by omega)
          go_wp2_with (first
            | (go_at_call 15; (with_reducible refine (kR _).mono ?_); rintro en w4 ⟨⟨A4, n4, cap4, rfl, hc4, hc5, hev4⟩, hb4⟩; obtain rfl : n4 = 1 := (by have := hev4.evLen; simpa using this.symm)))
          have kS := sameEvs_any A4 (some ⟨b, off + m * 8, none⟩) 1 1 cap4 (cap - m) [e] _ (hev4.al (o := .cells #[.int .i64 0, .int .i64 0, .int .i64 0, .int .i64 0] 42)) (hone.next hb4).al (by omega) hlab1
          refine kS.mono ?_
          rintro e' w5 ⟨rfl, hb5⟩
          clear kS kR hone hev4 hlab1
          go_wp2_with fail
          exact ⟨⟨⟨bl_on (bl_on_alloc (bl_on hbB hb4 hBz) (by have := hb4.size; omega) _) hb5 (by have := hb4.size; simp; omega), bl_any (bl_alloc (bl_any hbw hb4) _) hb5⟩, i + 1, m + 1, i + 1, rfl, rfl, rfl, by omega, by omega, by omega, HV2, Lib.hid (fun k h1 h2 => by omega)⟩, by (simp only [intOf]; omega)⟩
end Go.Proofs.YtpknjngjkdnpiaaGreatDoor
