/- The walks of dotsread's reader: fails. The walks of dotsread's reader: labels. The walks of point.Compare and of what it calls. The walks of slices.IndexFunc and slices.ContainsFunc at labels, families, points, with dotsread's closures. dotsread's reader with its families: what stands, how it goes on. The walk of (*dotsread.reader).puts. Plain bounds for dotsread's lines (no program in sight). The walk of (*dotsread.reader).line. The walks of slices' sorts at no or one element. The walks of own.Point, own.Points, own.Family. The walks of own.Family and family.Sort. dotsread.Read: bounds of rows, a family turned (no walk). The walk of dotsread.Read. known of the laws on the dotted format: what its texts say (no walk). The walk of polyglotlaw24's known. -/
import Derived.Test.YtoplengednoldaaGreatDoorDotRd
import Derived.Test.YtoplengednoldaaGreatDoorSpot
import Derived.Test.YtoplengednoldaaGreatDoorDotC
import Derived.Test.YtoplengednoldaaGreatDoorFamK
import Derived.Test.YtoplengednoldaaGreatDoorLabO
import Derived.Test.YtoplengednoldaaGreatDoorMgTp8
import Derived.Test.YtoplengednoldaaGreatDoorLabC
import Derived.Test.YtoplengednoldaaGreatDoorMgSum8
import Derived.Deep.RegionHeld3
import Derived.Deep.RegionLaw
import Derived.Test.YtoplengednoldaaGreatDoorDecC
import Derived.Test.YtoplengednoldaaGreatDoorStampA
import Derived.RegionTactic
namespace Go.Proofs.YtoplengednoldaaGreatDoor
set_option linter.unusedVariables false
set_option linter.unusedSimpArgs false
open Go.RowKit
section
/-- The reader's block. -/
def Dr (w : World) (r : Nat) (c o l k : Int) (s : ByteArray) (rv fv : Value) (N : Nat) : Prop := Blk w r 92 #[.int .i64 c, .int .i64 o, .int .i64 l, .int .i64 k, .string s, rv, fv, .int .i64 (N : Int)]
section
variable {w w' : World} {r N : Nat} {c o l k : Int} {s : ByteArray} {rv fv : Value}
theorem Dr.facts (h : Dr w r c o l k s rv fv N) : (w.cell? ⟨r, 0, none⟩ = some (.int .i64 c) ∧ w.cell? ⟨r, 1, none⟩ = some (.int .i64 o) ∧ w.cell? ⟨r, 2, none⟩ = some (.int .i64 l) ∧ w.cell? ⟨r, 3, none⟩ = some (.int .i64 k) ∧ w.cell? ⟨r, 4, none⟩ = some (.string s) ∧ w.cell? ⟨r, 5, none⟩ = some rv ∧ w.cell? ⟨r, 6, none⟩ = some fv ∧ w.cell? ⟨r, 7, none⟩ = some (.int .i64 (N : Int))) ∧ w.frozen? ⟨r, 0, none⟩ = false ∧ w.frozen? ⟨r, 1, none⟩ = false ∧ w.frozen? ⟨r, 2, none⟩ = false ∧ w.frozen? ⟨r, 3, none⟩ = false ∧ w.frozen? ⟨r, 6, none⟩ = false ∧ w.frozen? ⟨r, 7, none⟩ = false :=
  ⟨⟨(Blk.cell h 0).trans rfl, (Blk.cell h 1).trans rfl, (Blk.cell h 2).trans rfl, (Blk.cell h 3).trans rfl, (Blk.cell h 4).trans rfl, (Blk.cell h 5).trans rfl, (Blk.cell h 6).trans rfl, (Blk.cell h 7).trans rfl⟩, Blk.frozen h 0, Blk.frozen h 1, Blk.frozen h 2, Blk.frozen h 3, Blk.frozen h 6, Blk.frozen h 7⟩
theorem Dr.aw {S : List Nat} (h : Dr w r c o l k s rv fv N) (a : Aw S w w') (hr : r ∉ S) : Dr w' r c o l k s rv fv N := Blk.aw h a hr
theorem Dr.alloc (h : Dr w r c o l k s rv fv N) (o' : Obj) : Dr (w.alloc o') r c o l k s rv fv N := Blk.alloc h o'
theorem Dr.far (h : Dr w r c o l k s rv fv N) {p : Addr} (hp : r ≠ p.block) (u : Value) : Dr (w.setCell p u) r c o l k s rv fv N := Blk.far h hp u
theorem Dr.fams (h : Dr w r c o l k s rv fv N) (v : Value) : Dr (w.setCell ⟨r, 6, none⟩ v) r c o l k s rv v N := Blk.set_ h 6 v
theorem Dr.more (h : Dr w r c o l k s rv fv N) : Dr (w.setCell ⟨r, 7, none⟩ (.int .i64 ((N : Int) + 1))) r c o l k s rv fv (N + 1) := Blk.set_ h 7 (.int .i64 ((N : Int) + 1))
end
/-- The fault of a code at a place, in the reader's block. -/
def Drf (w : World) (r : Nat) (c : Nat) (at_ : Nat) (s : ByteArray) (rv fv : Value) (N : Nat) : Prop := Dr w r (c : Int) (fltO c s at_) (fltL c s at_) (fltC c s at_) s rv fv N
set_option maxHeartbeats 1600000 in
theorem dfails_any (r : Nat) (c o l k : Int) (s : ByteArray) (rv fv : Value) (N : Nat) (cd at_ : Nat) (w : World) (h : Dr w r c o l k s rv fv N) (hs : s.size ≤ 1048576) :
    Calls Tryz.prog 49 #[.pointer (some ⟨r, 0, none⟩), .int .i64 (cd : Int), .int .i64 (at_ : Int)] w fun e w' => e = .returned (.bool false) ∧ Drf w' r cd at_ s rv fv N ∧ Aw [r] w w' := by
  have kS := fun W => spAt_any (cd : Int) s (at_ : Int) W (Nat.le_trans hs (by decide))
  unfold Drf
  generalize fltO cd s at_ = O at *
  generalize fltL cd s at_ = L at *
  generalize fltC cd s at_ = C at *
  obtain ⟨⟨c0, c1, c2, c3, c4, c5, c6, c7⟩, f0, f1, f2, f3, f6, f7⟩ := h.facts
  go_enter Tryz.func49, Tryz.ntmps49
  go_wp2_with (go_at_call 19; (with_reducible refine (kS _).mono ?_); rintro e w1 ⟨rfl, hb1⟩; have h1 := h.aw (Aw.ofBelow (S := []) hb1) (by simp); have hA1 := Aw.ofBelow (S := [r]) hb1; obtain ⟨⟨d0, d1, d2, d3, d4, d5, d6, d7⟩, g0, g1, g2, g3, g6, g7⟩ := h1.facts)
  go_ret
  exact ⟨rfl, (((Blk.set_ h1 0 (.int .i64 (cd : Int))).set_ 1 (.int .i64 O)).set_ 2 (.int .i64 L)).set_ 3 (.int .i64 C), (((hA1.setCell (.inl (by simp)) _).setCell (.inl (by simp)) _).setCell (.inl (by simp)) _).setCell (.inl (by simp)) _⟩
end
section
theorem own_labR {w : World} {base : Nat} {A : Option Addr} {n cap : Nat} {l : List Lab} (h : w.ownsRow base 118 2 (.slice A n cap) n (l.flatMap labCell)) (hl : l.length = n) : IsRows labCell 2 w w.heap.size A n l := by
  obtain ⟨A', cap', e, hr⟩ := own_rws (f := labCell) (fun _ => rfl) h hl
  injection e with e1 e2 e3
  subst e1
  exact hr
/-- What labels does. -/
def LabsP (w0 w : World) (r : Nat) (c o l k : Int) (s : ByteArray) (rv fv : Value) (N : Nat) : Except (Nat × Nat) (List Lab) → Ending → Prop
  | .error x, en => en = .returned (.tuple #[.slice none 0 0, .bool false]) ∧ Drf w r x.1 x.2 s rv fv N ∧ Aw [r] w0 w
  | .ok L, en => (∃ A n c', en = .returned (.tuple #[.slice A n c', .bool true]) ∧ w.ownsRow w0.heap.size 118 2 (.slice A n c') n (((sortL L).getD []).flatMap labCell) ∧ ((sortL L).getD []).length = n ∧ L.length ≤ 1000000) ∧ Dr w r c o l k s rv fv N ∧ Aw [r] w0 w
set_option maxRecDepth 100000 in
set_option maxHeartbeats 12800000 in
theorem dlabels_any (r N : Nat) (c o l k : Int) (s : ByteArray) (rv fv : Value) (A0 : Option Addr) (c0 : Nat) (L0 : List Lab) (tA : Option Addr) (n tc B : Nat) (tags : List MTag) (w0 w : World)
    (h : Dr w r c o l k s rv fv N) (hA0 : Aw [r] w0 w) (hrl : r < w0.heap.size) (hs : s.size ≤ 1048576) (hown0 : w.ownsRow w0.heap.size 118 2 (.slice A0 L0.length c0) L0.length (L0.flatMap labCell)) (hL0 : L0.length ≤ 1000000) (ht : IsRows tagCell 4 w0 B tA n tags) (hBr : B ≤ r) (hn : n ≤ 1048576) :
    Calls Tryz.prog 50 #[.pointer (some ⟨r, 0, none⟩), .slice A0 L0.length c0, .slice tA n tc] w fun en w' => LabsP w0 w' r c o l k s rv fv N (labGo tags L0) en := by
  have kF13 : ∀ at_ W, Dr W r c o l k s rv fv N → Calls Tryz.prog 49 #[.pointer (some ⟨r, 0, none⟩), .int .i64 13, .int .i64 ((at_ : Nat) : Int)] W fun e w' => e = .returned (.bool false) ∧ Drf w' r 13 at_ s rv fv N ∧ Aw [r] W w' := fun at_ W h => dfails_any r c o l k s rv fv N 13 at_ W h hs
  have kF14 : ∀ at_ W, Dr W r c o l k s rv fv N → Calls Tryz.prog 49 #[.pointer (some ⟨r, 0, none⟩), .int .i64 14, .int .i64 ((at_ : Nat) : Int)] W fun e w' => e = .returned (.bool false) ∧ Drf w' r 14 at_ s rv fv N ∧ Aw [r] W w' := fun at_ W h => dfails_any r c o l k s rv fv N 14 at_ W h hs
  have htl := ht.1
  obtain ⟨R, hR⟩ : ∃ R, labGo tags L0 = R := ⟨_, rfl⟩
  rw [hR]
  have H0 : Hid (labGo (tags.drop 0) L0 = R) := Lib.hid (by rw [List.drop_zero]; exact hR)
  clear hR
  obtain ⟨i0, hi0, hz0, hz1, hz2⟩ := info_parts Tryz.infoLabel
  have hu : Tryz.prog.underlying 38 = some (.slice 118) := by kernel_rfl
  go_enter Tryz.func50, Tryz.ntmps50
  go_wp2_with fail
  go_loopw [1, 14] (fun lv i wr => ∃ (j : Nat) (acc : List Lab), j ≤ n ∧ i = .int .i64 j ∧ acc.length ≤ 1000000 ∧ Dr wr r c o l k s rv fv N ∧ wr.ownsRow w0.heap.size 118 2 lv acc.length (acc.flatMap labCell) ∧ Hid (labGo (tags.drop j) acc = R) ∧ Aw [r] w0 wr) (fun _ i _ => n - (intOf i).toNat)
  case atStart => exact ⟨0, L0, by omega, rfl, hL0, h, hown0, H0, hA0⟩
  case round =>
    obtain ⟨j, acc, hj, rfl, hacc, hr1, hown, HR, hA⟩ := hrel
    clear H0 hown0
    have hwr := hA.size
    have ht1 := ht.aw hA (by omega) (by simp; omega)
    obtain ⟨A, cap, rfl, hrA⟩ := own_rws (f := labCell) (fun _ => rfl) hown rfl
    by_cases hlt : j < n
    case pos =>
      have hdj : decide ((j : Int) < (n : Int)) = true := decide_eq_true (by omega)
      have hdjn : decide (j < n) = true := decide_eq_true hlt
      have hj0 : (0 : Int) ≤ j := by omega
      have hj1 : (j : Int) < n := by omega
      have wj : IntKind.i64.wrap ((j : Int) + 1) = (j : Int) + 1 := IntWalk.i64_in _ (by omega)
      obtain ⟨b, off, rfl, hb, hcs⟩ := ht1.2 (by omega)
      obtain ⟨T, hT⟩ : ∃ T, tags[j]? = some T := ⟨_, List.getElem?_eq_getElem (by omega)⟩
      have q0 : wr.cell? ⟨b, off + j * 4, none⟩ = some (.string T.name) := hcs j T 0 _ hT rfl
      have q1 : wr.cell? ⟨b, off + j * 4 + 1, none⟩ = some (.string T.value) := hcs j T 1 _ hT rfl
      have q2 : wr.cell? ⟨b, off + j * 4 + 2, none⟩ = some (.int .i64 (T.off : Int)) := hcs j T 2 _ hT rfl
      have q3 : wr.cell? ⟨b, off + j * 4 + 3, none⟩ = some (.int .i64 (T.pos : Int)) := hcs j T 3 _ hT rfl
      have hdrop := drop_at hT
      have hR := HR.out
      rw [hdrop, labGo] at hR
      clear hcs hdrop HR hT
      have kG := get_any A acc.length cap acc T.name (wr.alloc (.cells #[.string T.name, .string T.value, .int .i64 (T.off : Int), .int .i64 (T.pos : Int)] 86)) (own_labR (hown.alloc _) rfl) (by omega)
      have htg : Tg (wr.alloc (.cells #[.string T.name, .string T.value, .int .i64 (T.off : Int), .int .i64 (T.pos : Int)] 86)) wr.heap.size T.name T.value T.off T.pos := Blk.new wr _ _
      have hr2 := hr1.alloc (.cells #[.string T.name, .string T.value, .int .i64 (T.off : Int), .int .i64 (T.pos : Int)] 86)
      have hown2 := hown.alloc (.cells #[.string T.name, .string T.value, .int .i64 (T.off : Int), .int .i64 (T.pos : Int)] 86)
      have hA2 := hA.alloc (.cells #[.string T.name, .string T.value, .int .i64 (T.off : Int), .int .i64 (T.pos : Int)] 86)
      have kG2 := kG.mono fun en w5 (h5 : _ ∧ _) => (⟨h5.1, hr2.aw (Aw.ofBelow (S := []) h5.2) (by simp), (Tg.facts (Blk.aw htg (Aw.ofBelow (S := []) h5.2) (by simp))).1, own_aw hown2 (Aw.ofBelow (S := []) h5.2) (by simp), hA2.trans ((Aw.ofBelow (S := []) h5.2).mono (by simp))⟩ :
        en = .returned (.tuple #[.string (getV (getL acc T.name.data.toList)), .bool (getL acc T.name.data.toList).isSome]) ∧ Dr w5 r c o l k s rv fv N ∧ (w5.cell? ⟨wr.heap.size, 0, none⟩ = some (.string T.name) ∧ w5.cell? ⟨wr.heap.size, 1, none⟩ = some (.string T.value) ∧ w5.cell? ⟨wr.heap.size, 2, none⟩ = some (.int .i64 (T.off : Int)) ∧ w5.cell? ⟨wr.heap.size, 3, none⟩ = some (.int .i64 (T.pos : Int))) ∧ w5.ownsRow w0.heap.size 118 2 (.slice A acc.length cap) acc.length (acc.flatMap labCell) ∧ Aw [r] w0 w5)
      clear kG htg hr2 hown2 hA2 hrA hown hr1 hb
      by_cases h60 : 60 < T.name.size
      · rw [if_pos h60] at hR
        have d60 : decide ((60 : Int) < (T.name.size : Int)) = true := decide_eq_true (by omega)
        have d60n : decide (60 < T.name.size) = true := decide_eq_true h60
        subst hR
        go_wp2_with (first
          | (go_at_call 89; (with_reducible refine kG2.mono ?_); rintro en w5 ⟨rfl, hr5, ⟨d0, d1, d2, d3⟩, hown5, hA5⟩)
          | (go_at_call 49; (with_reducible refine (kF14 _ _ hr5).mono ?_); rintro en w9 ⟨rfl, h9, hA9⟩))
        go_ret2
        exact ⟨rfl, h9, hA5.trans hA9⟩
      rw [if_neg h60] at hR
      have d60 : decide ((60 : Int) < (T.name.size : Int)) = false := decide_eq_false (by omega)
      have d60n : decide (60 < T.name.size) = false := decide_eq_false h60
      clear h60
      by_cases h61 : 60 < T.value.size
      · rw [if_pos h61] at hR
        have d61 : decide ((60 : Int) < (T.value.size : Int)) = true := decide_eq_true (by omega)
        have d61n : decide (60 < T.value.size) = true := decide_eq_true h61
        subst hR
        go_wp2_with (first
          | (go_at_call 89; (with_reducible refine kG2.mono ?_); rintro en w5 ⟨rfl, hr5, ⟨d0, d1, d2, d3⟩, hown5, hA5⟩)
          | (go_at_call 49; (with_reducible refine (kF14 _ _ hr5).mono ?_); rintro en w9 ⟨rfl, h9, hA9⟩))
        go_ret2
        exact ⟨rfl, h9, hA5.trans hA9⟩
      rw [if_neg h61] at hR
      have d61 : decide ((60 : Int) < (T.value.size : Int)) = false := decide_eq_false (by omega)
      have d61n : decide (60 < T.value.size) = false := decide_eq_false h61
      clear h61
      cases hg : (getL acc T.name.data.toList).isSome
      case true =>
        rw [hg, if_pos rfl] at hR
        rw [hg] at kG2
        subst hR
        go_wp2_with (first
          | (go_at_call 89; (with_reducible refine kG2.mono ?_); rintro en w5 ⟨rfl, hr5, ⟨d0, d1, d2, d3⟩, hown5, hA5⟩)
          | (go_at_call 49; (with_reducible refine (kF13 _ _ hr5).mono ?_); rintro en w9 ⟨rfl, h9, hA9⟩))
        go_ret2
        exact ⟨rfl, h9, hA5.trans hA9⟩
      rw [hg, if_neg (by decide)] at hR
      rw [hg] at kG2
      by_cases h8 : 8 ≤ acc.length
      · rw [if_pos h8] at hR
        have d8 : decide ((8 : Int) ≤ (acc.length : Int)) = true := decide_eq_true (by omega)
        have d8n : decide (8 ≤ acc.length) = true := decide_eq_true h8
        subst hR
        go_wp2_with (first
          | (go_at_call 89; (with_reducible refine kG2.mono ?_); rintro en w5 ⟨rfl, hr5, ⟨d0, d1, d2, d3⟩, hown5, hA5⟩)
          | (go_at_call 49; (with_reducible refine (kF14 _ _ hr5).mono ?_); rintro en w9 ⟨rfl, h9, hA9⟩))
        go_ret2
        exact ⟨rfl, h9, hA5.trans hA9⟩
      rw [if_neg h8] at hR
      have d8 : decide ((8 : Int) ≤ (acc.length : Int)) = false := decide_eq_false (by omega)
      have d8n : decide (8 ≤ acc.length) = false := decide_eq_false h8
      have HR := Lib.hid hR
      have hacc8 : acc.length < 8 := by omega
      clear hR h8
      go_wp2_with (first
        | (go_at_call 89; (with_reducible refine kG2.mono ?_); rintro en w5 ⟨rfl, hr5, ⟨d0, d1, d2, d3⟩, hown5, hA5⟩)
        | (at_builtin; (refine wpList_append_lies _ (by rfl) _ _ _ (by rfl) w0.heap.size 118 i0 _ 2 32 hu hi0 hz0 hz1 hz2 rfl (by have := hA5.size; omega) _ acc.length (acc.flatMap labCell) (by rfl) (hown5.alloc _) ⟨w5.heap.size, 0, none⟩ 1 1 _ (by rfl) (by rfl) (World.news_of_block (heap_alloc_new w5 _)) (by simp [Value.oneCell']) (by omega) (by simp [maxLen]; omega) (by omega) (by simp; have := hA5.size; omega) (w5.heap.size + 1) (by simp) ?_); intro gg capg w18 hown18 hgrow hat18 hlt18))
      have hr18 : Dr w18 r c o l k s rv fv N := Blk.grown (w := _) (Blk.alloc hr5 _) hgrow (fun e => own_blk_ne hown5 hr5 (by decide) e.symm)
      have hAw18 : Aw [r] w0 w18 := (hA5.alloc _).grown hgrow (fun k' hk => .inr (hown5.lt _ hk).1)
      exact ⟨⟨j + 1, acc ++ [(T.name, T.value)], by omega, rfl, by simp; omega, hr18, by simpa [labCell] using hown18, HR, hAw18⟩, by (simp only [intOf]; omega)⟩
    case neg =>
      have hdj : decide ((j : Int) < (n : Int)) = false := decide_eq_false (by omega)
      have hdjn : decide (j < n) = false := decide_eq_false hlt
      have hR := HR.out
      rw [List.drop_of_length_le (by omega), labGo] at hR
      subst hR
      clear HR
      have kS := sortO_any A acc.length cap acc wr hrA (by omega)
      go_wp2_with (go_at_call 90; (with_reducible refine kS.mono ?_); rintro en w6 ⟨⟨A', n', cap', rfl, hrS, hn'⟩, hb6⟩; have hA6 := Aw.ofBelow (S := []) hb6; have hr6 := hr1.aw hA6 (by simp))
      go_ret2
      exact ⟨⟨A', n', cap', rfl, own_low hrS hwr, hn', hacc⟩, hr6, hA.trans (hA6.mono (by simp))⟩
end
section
theorem bools_any (a b : Bool) (w : World) : Calls Tryz.prog 105 #[.bool a, .bool b] w fun e w' => e = .returned (.int .i64 (bB a b)) ∧ w' = w := by
  cases a <;> cases b
  all_goals
    go_enter Tryz.func105, Tryz.ntmps105
    go_wp2_with fail
    go_ret
    exact ⟨rfl, rfl⟩
theorem nan_any (a : Int) (w : World) : Calls Tryz.prog 168 #[.int .i64 a] w fun e w' => e = .returned (.bool false) ∧ w' = w := by
  have h : (a != a) = false := by simp
  go_enter Tryz.func168, Tryz.ntmps168
  go_wp2_with fail
  go_ret
  exact ⟨rfl, rfl⟩
theorem nan64_any (a : Int) (w : World) : Calls Tryz.prog 167 #[.int .i64 a] w fun e w' => e = .returned (.bool false) ∧ w' = w := by
  have h : (a != a) = false := by simp
  go_enter Tryz.func167, Tryz.ntmps167
  go_wp2_with fail
  go_ret
  exact ⟨rfl, rfl⟩
theorem ncmp_any (a b : Int) (w : World) : Calls Tryz.prog 107 #[.int .i64 a, .int .i64 b] w fun e w' => e = .returned (.int .i64 (nB a b)) ∧ w' = w := by
  have k := fun x W => nan_any x W
  obtain ⟨R, hR⟩ : ∃ R, nB a b = R := ⟨_, rfl⟩
  rw [hR]
  unfold nB at hR
  by_cases h1 : a < b
  · rw [if_pos h1] at hR
    have d1 : decide (a < b) = true := decide_eq_true h1
    subst hR
    clear h1
    go_enter Tryz.func107, Tryz.ntmps107
    go_wp2_with (first | (go_at_call 168; (with_reducible refine (k _ _).mono ?_); rintro e w1 ⟨rfl, rfl⟩) | (go_at_call 167; (with_reducible refine (k _ _).mono ?_); rintro e w1 ⟨rfl, rfl⟩))
    go_ret
    exact ⟨rfl, rfl⟩
  · rw [if_neg h1] at hR
    have d1 : decide (a < b) = false := decide_eq_false h1
    clear h1
    by_cases h2 : b < a
    · rw [if_pos h2] at hR
      have d2 : decide (b < a) = true := decide_eq_true h2
      subst hR
      clear h2
      go_enter Tryz.func107, Tryz.ntmps107
      go_wp2_with (first | (go_at_call 168; (with_reducible refine (k _ _).mono ?_); rintro e w1 ⟨rfl, rfl⟩) | (go_at_call 167; (with_reducible refine (k _ _).mono ?_); rintro e w1 ⟨rfl, rfl⟩))
      go_ret
      exact ⟨rfl, rfl⟩
    · rw [if_neg h2] at hR
      have d2 : decide (b < a) = false := decide_eq_false h2
      subst hR
      clear h2
      go_enter Tryz.func107, Tryz.ntmps107
      go_wp2_with (first | (go_at_call 168; (with_reducible refine (k _ _).mono ?_); rintro e w1 ⟨rfl, rfl⟩) | (go_at_call 167; (with_reducible refine (k _ _).mono ?_); rintro e w1 ⟨rfl, rfl⟩))
      go_ret
      exact ⟨rfl, rfl⟩
theorem ncmp64_any (a b : Int) (w : World) : Calls Tryz.prog 106 #[.int .i64 a, .int .i64 b] w fun e w' => e = .returned (.int .i64 (nB a b)) ∧ w' = w := by
  have k := fun x W => nan64_any x W
  obtain ⟨R, hR⟩ : ∃ R, nB a b = R := ⟨_, rfl⟩
  rw [hR]
  unfold nB at hR
  by_cases h1 : a < b
  · rw [if_pos h1] at hR
    have d1 : decide (a < b) = true := decide_eq_true h1
    subst hR
    clear h1
    go_enter Tryz.func106, Tryz.ntmps106
    go_wp2_with (first | (go_at_call 168; (with_reducible refine (k _ _).mono ?_); rintro e w1 ⟨rfl, rfl⟩) | (go_at_call 167; (with_reducible refine (k _ _).mono ?_); rintro e w1 ⟨rfl, rfl⟩))
    go_ret
    exact ⟨rfl, rfl⟩
  · rw [if_neg h1] at hR
    have d1 : decide (a < b) = false := decide_eq_false h1
    clear h1
    by_cases h2 : b < a
    · rw [if_pos h2] at hR
      have d2 : decide (b < a) = true := decide_eq_true h2
      subst hR
      clear h2
      go_enter Tryz.func106, Tryz.ntmps106
      go_wp2_with (first | (go_at_call 168; (with_reducible refine (k _ _).mono ?_); rintro e w1 ⟨rfl, rfl⟩) | (go_at_call 167; (with_reducible refine (k _ _).mono ?_); rintro e w1 ⟨rfl, rfl⟩))
      go_ret
      exact ⟨rfl, rfl⟩
    · rw [if_neg h2] at hR
      have d2 : decide (b < a) = false := decide_eq_false h2
      subst hR
      clear h2
      go_enter Tryz.func106, Tryz.ntmps106
      go_wp2_with (first | (go_at_call 168; (with_reducible refine (k _ _).mono ?_); rintro e w1 ⟨rfl, rfl⟩) | (go_at_call 167; (with_reducible refine (k _ _).mono ?_); rintro e w1 ⟨rfl, rfl⟩))
      go_ret
      exact ⟨rfl, rfl⟩
/-! ### cmp.Or of numbers that lie in a block -/
def numCell (x : Int) : List Value := [.int .i64 x]
set_option maxHeartbeats 1600000 in
theorem orn_any (b n B : Nat) (xs : List Int) (w : World) (hl : IsRows numCell 1 w B (some ⟨b, 0, none⟩) n xs) (hn : n ≤ 1048576) :
    Calls Tryz.prog 103 #[.slice (some ⟨b, 0, none⟩) n n] w fun e w' => e = .returned (.int .i64 (orL xs)) ∧ w' = w := by
  have hll := hl.1
  obtain ⟨R, hR⟩ : ∃ R, orL xs = R := ⟨_, rfl⟩
  rw [hR]
  have H0 : Hid (orL (xs.drop 0) = R) := Lib.hid (by rw [List.drop_zero]; exact hR)
  clear hR
  go_enter Tryz.func103, Tryz.ntmps103
  go_wp2_with fail
  go_loop [8] (fun i => ∃ k : Nat, k ≤ n ∧ i = .int .i64 k ∧ Hid (orL (xs.drop k) = R)) (fun i => n - (intOf i).toNat)
  case atStart => exact ⟨0, by omega, rfl, H0⟩
  case round =>
    obtain ⟨k, hk, rfl, HG⟩ := hrel
    clear H0
    have hG := HG.out
    clear HG
    by_cases hlt : k < n
    · have hd : decide ((k : Int) < n) = true := decide_eq_true (by omega)
      have hk0 : (0 : Int) ≤ k := by omega
      have hk1 : (k : Int) < n := by omega
      obtain ⟨b', off, e1, hb, hcs⟩ := hl.2 (by omega)
      injection e1 with e1
      injection e1 with e1 e2
      subst e1 e2
      obtain ⟨X, hX⟩ : ∃ X, xs[k]? = some X := ⟨_, List.getElem?_eq_getElem (by omega)⟩
      have q0 : w.cell? ⟨b, k, none⟩ = some (.int .i64 X) := by have := hcs k X 0 _ hX rfl; simpa using this
      rw [drop_at hX, orL] at hG
      clear hcs hX
      by_cases h0 : X = 0
      · rw [if_neg (by simp [h0])] at hG
        have d0 : (X != 0) = false := by simp [h0]
        have HN := Lib.hid hG
        clear h0 hG
        go_wp2_with fail
        exact ⟨⟨k + 1, by omega, rfl, HN⟩, by (simp only [intOf]; omega)⟩
      · rw [if_pos h0] at hG
        have d0 : (X != 0) = true := by simp [h0]
        subst hG
        clear h0
        go_wp2_with fail
        go_ret
        exact ⟨rfl, rfl⟩
    · have hd : decide ((k : Int) < n) = false := decide_eq_false (by omega)
      rw [List.drop_of_length_le (by omega), orL] at hG
      subst hG
      go_wp2_with fail
      go_ret
      exact ⟨rfl, rfl⟩
theorem orn_new (x1 x2 x3 x4 x5 x6 : Int) (W : World) :
    Calls Tryz.prog 103 #[.slice (some ⟨W.heap.size, 0, none⟩) 6 6] (W.alloc (.cells #[.int .i64 x1, .int .i64 x2, .int .i64 x3, .int .i64 x4, .int .i64 x5, .int .i64 x6] 3)) fun e w' => e = .returned (.int .i64 (orL [x1, x2, x3, x4, x5, x6])) ∧ w' = W.alloc (.cells #[.int .i64 x1, .int .i64 x2, .int .i64 x3, .int .i64 x4, .int .i64 x5, .int .i64 x6] 3) := by
  have hb := Blk.new W 3 #[.int .i64 x1, .int .i64 x2, .int .i64 x3, .int .i64 x4, .int .i64 x5, .int .i64 x6]
  exact orn_any W.heap.size 6 (W.heap.size + 1) [x1, x2, x3, x4, x5, x6] _ ⟨rfl, fun _ => ⟨W.heap.size, 0, rfl, by omega, fun i x j u hx hu => by
    have hj : j = 0 := by
      have := (List.getElem?_eq_some_iff.1 hu).1
      simpa [numCell] using this
    subst hj
    simp [numCell] at hu
    subst hu
    have hi := (List.getElem?_eq_some_iff.1 hx).1
    have e : (0 + (i * 1 + 0)) = i := by omega
    rw [e, Blk.cell hb]
    have h6 : i = 0 ∨ i = 1 ∨ i = 2 ∨ i = 3 ∨ i = 4 ∨ i = 5 := by simp at hi; omega
    rcases h6 with rfl | rfl | rfl | rfl | rfl | rfl <;> (simp at hx; subst hx; rfl)⟩⟩ (by decide)
/-! ### point.Compare -/
def pArgs (p : VPnt) : Array Value := #[.slice p.A p.pt.labels.length p.c, .int .i64 (p.pt.role : Int), .bool p.pt.inf, .int .i64 p.pt.bM, .int .i64 (p.pt.bS : Int), .int .i64 p.pt.vM, .int .i64 (p.pt.vS : Int), .bool p.pt.timed, .int .i64 p.pt.time]
structure PntOk (p : MPnt) : Prop where
  bm : -9223372036854775808 ≤ p.bM ∧ p.bM ≤ 9223372036854775807
  len : p.labels.length ≤ 1048576
structure PS (w0 w : World) (t2 t3 : Nat) (p q : VPnt) : Prop where
  b2 : Blk w t2 70 #[.slice p.A p.pt.labels.length p.c, .int .i64 (p.pt.role : Int), .bool p.pt.inf, .int .i64 p.pt.bM, .int .i64 (p.pt.bS : Int), .int .i64 p.pt.vM, .int .i64 (p.pt.vS : Int), .bool p.pt.timed, .int .i64 p.pt.time]
  b3 : Blk w t3 70 #[.slice q.A q.pt.labels.length q.c, .int .i64 (q.pt.role : Int), .bool q.pt.inf, .int .i64 q.pt.bM, .int .i64 (q.pt.bS : Int), .int .i64 q.pt.vM, .int .i64 (q.pt.vS : Int), .bool q.pt.timed, .int .i64 q.pt.time]
  lp : IsRows labCell 2 w w0.heap.size p.A p.pt.labels.length p.pt.labels
  lq : IsRows labCell 2 w w0.heap.size q.A q.pt.labels.length q.pt.labels
  aw : Aw [] w0 w
abbrev PF (w : World) (t : Nat) (p : VPnt) : Prop := w.cell? ⟨t, 0, none⟩ = some (.slice p.A p.pt.labels.length p.c) ∧ w.cell? ⟨t, 1, none⟩ = some (.int .i64 (p.pt.role : Int)) ∧ w.cell? ⟨t, 2, none⟩ = some (.bool p.pt.inf) ∧ w.cell? ⟨t, 3, none⟩ = some (.int .i64 p.pt.bM) ∧ w.cell? ⟨t, 4, none⟩ = some (.int .i64 (p.pt.bS : Int)) ∧ w.cell? ⟨t, 7, none⟩ = some (.bool p.pt.timed) ∧ w.cell? ⟨t, 8, none⟩ = some (.int .i64 p.pt.time)
section
variable {w0 w w' : World} {t2 t3 : Nat} {p q : VPnt}
theorem PS.call (h : PS w0 w t2 t3 p q) (a : Aw [] w w') : PS w0 w' t2 t3 p q :=
  ⟨Blk.aw h.b2 a (by simp), Blk.aw h.b3 a (by simp), h.lp.aw a h.aw.size (by simp), h.lq.aw a h.aw.size (by simp), h.aw.trans a⟩
theorem PS.drew (h : PS w0 w t2 t3 p q) : PS w0 w.drew t2 t3 p q := h.call (Aw.refl [] w).drew
theorem PS.alloc (h : PS w0 w t2 t3 p q) (o : Obj) : PS w0 (w.alloc o) t2 t3 p q := h.call ((Aw.refl [] w).alloc o)
theorem PS.fs (h : PS w0 w t2 t3 p q) : (PF w t2 p ∧ PF w t3 q) ∧ PS w0 w t2 t3 p q :=
  ⟨⟨⟨(Blk.cell h.b2 0).trans rfl, (Blk.cell h.b2 1).trans rfl, (Blk.cell h.b2 2).trans rfl, (Blk.cell h.b2 3).trans rfl, (Blk.cell h.b2 4).trans rfl, (Blk.cell h.b2 7).trans rfl, (Blk.cell h.b2 8).trans rfl⟩, ⟨(Blk.cell h.b3 0).trans rfl, (Blk.cell h.b3 1).trans rfl, (Blk.cell h.b3 2).trans rfl, (Blk.cell h.b3 3).trans rfl, (Blk.cell h.b3 4).trans rfl, (Blk.cell h.b3 7).trans rfl, (Blk.cell h.b3 8).trans rfl⟩⟩, h⟩
end
abbrev PFF (w' : World) (t2 : Nat) (p q : VPnt) : Prop := (w'.cell? ⟨t2, 0, none⟩ = some (.slice p.A p.pt.labels.length p.c) ∧ w'.cell? ⟨t2, 1, none⟩ = some (.int .i64 (p.pt.role : Int)) ∧ w'.cell? ⟨t2, 2, none⟩ = some (.bool p.pt.inf) ∧ w'.cell? ⟨t2, 3, none⟩ = some (.int .i64 p.pt.bM) ∧ w'.cell? ⟨t2, 4, none⟩ = some (.int .i64 (p.pt.bS : Int)) ∧ w'.cell? ⟨t2, 7, none⟩ = some (.bool p.pt.timed) ∧ w'.cell? ⟨t2, 8, none⟩ = some (.int .i64 p.pt.time)) ∧ (w'.cell? ⟨t2 + 1, 0, none⟩ = some (.slice q.A q.pt.labels.length q.c) ∧ w'.cell? ⟨t2 + 1, 1, none⟩ = some (.int .i64 (q.pt.role : Int)) ∧ w'.cell? ⟨t2 + 1, 2, none⟩ = some (.bool q.pt.inf) ∧ w'.cell? ⟨t2 + 1, 3, none⟩ = some (.int .i64 q.pt.bM) ∧ w'.cell? ⟨t2 + 1, 4, none⟩ = some (.int .i64 (q.pt.bS : Int)) ∧ w'.cell? ⟨t2 + 1, 7, none⟩ = some (.bool q.pt.timed) ∧ w'.cell? ⟨t2 + 1, 8, none⟩ = some (.int .i64 q.pt.time))
theorem labc_ps {w w' : World} {t2 : Nat} {p q : VPnt} (hp : PntOk p.pt) (hq : PntOk q.pt) (h : PFF w' t2 p q ∧ PS w w' t2 (t2 + 1) p q) :
    Calls Tryz.prog 104 #[.slice p.A p.pt.labels.length p.c, .slice q.A q.pt.labels.length q.c] w' fun e w2 => e = .returned (.int .i64 (cmpRow p.pt.labels q.pt.labels)) ∧ (PFF w2 t2 p q ∧ PS w w2 t2 (t2 + 1) p q) :=
  (labCompare_any p.A p.pt.labels.length p.c p.pt.labels q.A q.pt.labels.length q.c q.pt.labels w' (h.2.lp.more h.2.aw.size) (by have := hp.len; omega) (h.2.lq.more h.2.aw.size) (by have := hq.len; omega)).mono fun e w2 ⟨h1, h2⟩ => ⟨h1, (h.2.call (Aw.ofBelow h2)).fs⟩
theorem sumc_ps {w w' : World} {t2 : Nat} {p q : VPnt} (hp : PntOk p.pt) (hq : PntOk q.pt) (h : PFF w' t2 p q ∧ PS w w' t2 (t2 + 1) p q) :
    Calls Tryz.prog 108 #[.agg #[.int .i64 p.pt.bM, .int .i64 (p.pt.bS : Int)], .agg #[.int .i64 q.pt.bM, .int .i64 (q.pt.bS : Int)]] w' fun e w2 => e = .returned (.int .i64 (cmpD p.pt.bM (p.pt.bS : Int) q.pt.bM (q.pt.bS : Int))) ∧ (PFF w2 t2 p q ∧ PS w w2 t2 (t2 + 1) p q) :=
  (scompare_any p.pt.bM (p.pt.bS : Int) q.pt.bM (q.pt.bS : Int) hp.bm.1 hp.bm.2 hq.bm.1 hq.bm.2 w').mono fun e w2 ⟨h1, h2⟩ => ⟨h1, (h.2.call h2).fs⟩
set_option maxRecDepth 100000 in
set_option maxHeartbeats 6400000 in
theorem pcompare_any (p q : VPnt) (w : World) (hp : IsRows labCell 2 w w.heap.size p.A p.pt.labels.length p.pt.labels) (hq : IsRows labCell 2 w w.heap.size q.A q.pt.labels.length q.pt.labels) (kp : PntOk p.pt) (kq : PntOk q.pt) :
    Calls Tryz.prog 57 #[.agg #[.slice p.A p.pt.labels.length p.c, .int .i64 (p.pt.role : Int), .bool p.pt.inf, .int .i64 p.pt.bM, .int .i64 (p.pt.bS : Int), .int .i64 p.pt.vM, .int .i64 (p.pt.vS : Int), .bool p.pt.timed, .int .i64 p.pt.time], .agg #[.slice q.A q.pt.labels.length q.c, .int .i64 (q.pt.role : Int), .bool q.pt.inf, .int .i64 q.pt.bM, .int .i64 (q.pt.bS : Int), .int .i64 q.pt.vM, .int .i64 (q.pt.vS : Int), .bool q.pt.timed, .int .i64 q.pt.time]] w fun e w' => e = .returned (.int .i64 (cmpPnt p.pt q.pt)) ∧ Aw [] w w' := by
  have HU : Hid (cmpPnt p.pt q.pt = orL [cmpRow p.pt.labels q.pt.labels, bB p.pt.timed q.pt.timed, nB p.pt.time q.pt.time, nB (p.pt.role : Int) (q.pt.role : Int), bB p.pt.inf q.pt.inf, cmpD p.pt.bM (p.pt.bS : Int) q.pt.bM (q.pt.bS : Int)]) := Lib.hid rfl
  have hz : (w.alloc (.cells (pArgs p) 70)).heap.size = w.heap.size + 1 := by simp
  have hX : PS w ((w.alloc (.cells (pArgs p) 70)).alloc (.cells (pArgs q) 70)) w.heap.size (w.heap.size + 1) p q :=
    ⟨Blk.alloc (Blk.new w 70 (pArgs p)) _, by have := Blk.new (w.alloc (.cells (pArgs p) 70)) 70 (pArgs q); rw [hz] at this; exact this,
      hp.aw (((Aw.refl [] w).alloc _).alloc _) (Nat.le_refl _) (by simp), hq.aw (((Aw.refl [] w).alloc _).alloc _) (Nat.le_refl _) (by simp), ((Aw.refl [] w).alloc _).alloc _⟩
  unfold pArgs at hX
  clear hz hp hq
  go_enter Tryz.func57, Tryz.ntmps57
  go_wp2_with fail
  generalize (w.alloc (.cells #[.slice p.A p.pt.labels.length p.c, .int .i64 (p.pt.role : Int), .bool p.pt.inf, .int .i64 p.pt.bM, .int .i64 (p.pt.bS : Int), .int .i64 p.pt.vM, .int .i64 (p.pt.vS : Int), .bool p.pt.timed, .int .i64 p.pt.time] 70)).alloc (.cells #[.slice q.A q.pt.labels.length q.c, .int .i64 (q.pt.role : Int), .bool q.pt.inf, .int .i64 q.pt.bM, .int .i64 (q.pt.bS : Int), .int .i64 q.pt.vM, .int .i64 (q.pt.vS : Int), .bool q.pt.timed, .int .i64 q.pt.time] 70) = wX at *
  generalize w.heap.size = t2 at *
  clear HU
  have HP := Lib.hid kp
  have HQ := Lib.hid kq
  clear kp kq
  go_region_held3 (fun w' => ((w'.cell? ⟨t2, 0, none⟩ = some (.slice p.A p.pt.labels.length p.c) ∧ w'.cell? ⟨t2, 1, none⟩ = some (.int .i64 (p.pt.role : Int)) ∧ w'.cell? ⟨t2, 2, none⟩ = some (.bool p.pt.inf) ∧ w'.cell? ⟨t2, 3, none⟩ = some (.int .i64 p.pt.bM) ∧ w'.cell? ⟨t2, 4, none⟩ = some (.int .i64 (p.pt.bS : Int)) ∧ w'.cell? ⟨t2, 7, none⟩ = some (.bool p.pt.timed) ∧ w'.cell? ⟨t2, 8, none⟩ = some (.int .i64 p.pt.time)) ∧ (w'.cell? ⟨t2 + 1, 0, none⟩ = some (.slice q.A q.pt.labels.length q.c) ∧ w'.cell? ⟨t2 + 1, 1, none⟩ = some (.int .i64 (q.pt.role : Int)) ∧ w'.cell? ⟨t2 + 1, 2, none⟩ = some (.bool q.pt.inf) ∧ w'.cell? ⟨t2 + 1, 3, none⟩ = some (.int .i64 q.pt.bM) ∧ w'.cell? ⟨t2 + 1, 4, none⟩ = some (.int .i64 (q.pt.bS : Int)) ∧ w'.cell? ⟨t2 + 1, 7, none⟩ = some (.bool q.pt.timed) ∧ w'.cell? ⟨t2 + 1, 8, none⟩ = some (.int .i64 q.pt.time))) ∧ PS w w' t2 (t2 + 1) p q) (first | (with_reducible assumption) | (with_reducible exact hX.drew.fs) | (with_reducible exact (PS.alloc (And.right (by with_reducible assumption)) _).fs)) (first
    | (go_at_call 104; (with_reducible refine (labc_ps HP.out HQ.out (by with_reducible assumption)).mono ?_); rintro e w1 ⟨rfl, hS1⟩)
    | (go_at_call 105; (with_reducible refine (bools_any _ _ _).mono ?_); rintro e w1 ⟨rfl, rfl⟩)
    | (go_at_call 106; (with_reducible refine (ncmp64_any _ _ _).mono ?_); rintro e w1 ⟨rfl, rfl⟩)
    | (go_at_call 107; (with_reducible refine (ncmp_any _ _ _).mono ?_); rintro e w1 ⟨rfl, rfl⟩)
    | (go_at_call 108; (with_reducible refine (sumc_ps HP.out HQ.out (by with_reducible assumption)).mono ?_); rintro e w1 ⟨rfl, hS1⟩)
    | (go_at_call 103; (with_reducible refine (orn_new _ _ _ _ _ _ _).mono ?_); rintro e w1 ⟨rfl, rfl⟩))
  rename_i hH
  obtain ⟨_, hbZ⟩ := hH
  go_wp2_with fail
  go_ret
  exact ⟨rfl, hbZ.aw⟩
end
section
/-- Where the first one stands of which p holds; -1: none. -/
def idxFrom {α : Type} (p : α → Bool) : List α → Nat → Int
  | [], _ => -1
  | x :: xs, k => if p x then (k : Int) else idxFrom p xs (k + 1)
theorem idxFrom_any {α : Type} (p : α → Bool) (xs : List α) (k : Nat) : decide (0 ≤ idxFrom p xs k) = xs.any p := by
  induction xs generalizing k with
  | nil => simp [idxFrom]
  | cons x r ih =>
    rw [idxFrom, List.any_cons]
    cases h : p x
    · rw [if_neg (by simp), ih, Bool.false_or]
    · rw [if_pos rfl, Bool.true_or]; exact decide_eq_true (by omega)
theorem idxFrom_at {α : Type} (p : α → Bool) (xs : List α) (k : Nat) : idxFrom p xs k = if xs.findIdx p < xs.length then ((k + xs.findIdx p : Nat) : Int) else -1 := by
  induction xs generalizing k with
  | nil => simp [idxFrom]
  | cons x r ih =>
    rw [idxFrom, List.findIdx_cons]
    cases h : p x
    · rw [if_neg (by simp), ih]
      simp only [cond_false, List.length_cons, Nat.add_lt_add_iff_right]
      split
      · rw [Nat.add_right_comm, Nat.add_assoc]
      · rfl
    · simp
theorem long_any (x : Lab) (w : World) : Calls Tryz.prog 47 #[.agg #[.string x.1, .string x.2]] w fun e w' => e = .returned (.bool (longL x)) ∧ Aw [] w w' := by
  have HB : Hid (longL x = decide ((60 : Int) < (x.2.size : Int))) := Lib.hid (by unfold longL; exact decide_eq_decide.2 (by omega))
  go_enter Tryz.func47, Tryz.ntmps47
  go_wp2_with fail
  go_ret
  exact ⟨ret_bool (by rw [HB.out]), (Aw.refl [] w).alloc _⟩
theorem named_any (cb : Nat) (n : ByteArray) (x : VFam) (w : World) (hc : w.cell? ⟨cb, 0, none⟩ = some (.string n)) : Calls Tryz.prog 98 #[.agg #[.string x.name, .int .i64 (x.kind : Int), .string x.unit, .string x.help, .slice x.A x.pts.length x.c], .pointer (some ⟨cb, 0, none⟩)] w fun e w' => e = .returned (.bool (x.name.data.toList == n.data.toList)) ∧ Aw [] w w' := by
  have hq : w.cell? ⟨cb, 0, none⟩ = some (.string n) := hc
  have hA := (Aw.refl [] w).alloc (.cells #[.string x.name, .int .i64 (x.kind : Int), .string x.unit, .string x.help, .slice x.A x.pts.length x.c] 66)
  have hb := Blk.new w 66 #[.string x.name, .int .i64 (x.kind : Int), .string x.unit, .string x.help, .slice x.A x.pts.length x.c]
  have c0 := (Blk.cell hb 0).trans rfl
  have c1 := (World.cell?_alloc_lt w (.cells #[.string x.name, .int .i64 (x.kind : Int), .string x.unit, .string x.help, .slice x.A x.pts.length x.c] 66) ⟨cb, 0, none⟩ (lt_of_cell hq)).trans hq
  cases hb : x.name.data.toList == n.data.toList
  all_goals
    go_enter Tryz.func98, Tryz.ntmps98
    go_wp2_with fail
    go_ret
    exact ⟨ret_bool (by first | exact hb | (rw [ByteArray.toList_eq, ByteArray.toList_eq]; exact hb) | (rw [ByteArray.toList_eq, ByteArray.toList_eq]; exact hb.symm) | exact (hb.symm)), hA⟩
set_option maxHeartbeats 1600000 in
theorem same_any (cb : Nat) (p x : VPnt) (w : World) (hc : Blk w cb 70 #[.slice p.A p.pt.labels.length p.c, .int .i64 (p.pt.role : Int), .bool p.pt.inf, .int .i64 p.pt.bM, .int .i64 (p.pt.bS : Int), .int .i64 p.pt.vM, .int .i64 (p.pt.vS : Int), .bool p.pt.timed, .int .i64 p.pt.time])
    (hp : IsRows labCell 2 w w.heap.size p.A p.pt.labels.length p.pt.labels) (hq : IsRows labCell 2 w w.heap.size x.A x.pt.labels.length x.pt.labels) (kp : PntOk p.pt) (kq : PntOk x.pt) :
    Calls Tryz.prog 100 #[.agg #[.slice x.A x.pt.labels.length x.c, .int .i64 (x.pt.role : Int), .bool x.pt.inf, .int .i64 x.pt.bM, .int .i64 (x.pt.bS : Int), .int .i64 x.pt.vM, .int .i64 (x.pt.vS : Int), .bool x.pt.timed, .int .i64 x.pt.time], .pointer (some ⟨cb, 0, none⟩)] w fun e w' => e = .returned (.bool (samePnt p.pt x.pt)) ∧ Aw [] w w' := by
  have hA := (Aw.refl [] w).alloc (.cells #[.slice x.A x.pt.labels.length x.c, .int .i64 (x.pt.role : Int), .bool x.pt.inf, .int .i64 x.pt.bM, .int .i64 (x.pt.bS : Int), .int .i64 x.pt.vM, .int .i64 (x.pt.vS : Int), .bool x.pt.timed, .int .i64 x.pt.time] 70)
  have kC := pcompare_any p x _ ((hp.aw hA (Nat.le_refl _) (by simp)).more hA.size) ((hq.aw hA (Nat.le_refl _) (by simp)).more hA.size) kp kq
  have hc1 := Blk.aw hc hA (by simp)
  have hn := Blk.new w 70 #[.slice x.A x.pt.labels.length x.c, .int .i64 (x.pt.role : Int), .bool x.pt.inf, .int .i64 x.pt.bM, .int .i64 (x.pt.bS : Int), .int .i64 x.pt.vM, .int .i64 (x.pt.vS : Int), .bool x.pt.timed, .int .i64 x.pt.time]
  have e0 := (Blk.cell hc1 0).trans rfl; have e1 := (Blk.cell hc1 1).trans rfl; have e2 := (Blk.cell hc1 2).trans rfl; have e3 := (Blk.cell hc1 3).trans rfl; have e4 := (Blk.cell hc1 4).trans rfl; have e5 := (Blk.cell hc1 5).trans rfl; have e6 := (Blk.cell hc1 6).trans rfl; have e7 := (Blk.cell hc1 7).trans rfl; have e8 := (Blk.cell hc1 8).trans rfl
  have c0 := (Blk.cell hn 0).trans rfl; have c1 := (Blk.cell hn 1).trans rfl; have c2 := (Blk.cell hn 2).trans rfl; have c3 := (Blk.cell hn 3).trans rfl; have c4 := (Blk.cell hn 4).trans rfl; have c5 := (Blk.cell hn 5).trans rfl; have c6 := (Blk.cell hn 6).trans rfl; have c7 := (Blk.cell hn 7).trans rfl; have c8 := (Blk.cell hn 8).trans rfl
  have HB : Hid (samePnt p.pt x.pt = (cmpPnt p.pt x.pt == 0)) := Lib.hid (by unfold samePnt; rfl)
  generalize cmpPnt p.pt x.pt = C at *
  generalize samePnt p.pt x.pt = D at *
  clear hc hp hq kp kq
  cases hb : C == 0
  all_goals
    go_enter Tryz.func100, Tryz.ntmps100
    go_wp2_with (go_at_call 57; (with_reducible refine kC.mono ?_); rintro e w1 ⟨rfl, hA1⟩)
    go_ret
    exact ⟨ret_bool (by rw [HB.out, hb]), hA.trans hA1⟩
set_option maxHeartbeats 3200000 in
theorem idxL_any (cb : Nat) (A : Option Addr) (n cap B : Nat) (xs : List Lab) (p : Lab → Bool) (w : World) (hl : IsRows labCell 2 w B A n xs) (hB : B ≤ w.heap.size) (hn : n ≤ 2097152)
    (hp : ∀ x ∈ xs, ∀ W, Aw [] w W → Calls Tryz.prog 47 #[.agg #[.string x.1, .string x.2]] W fun e w' => e = .returned (.bool (p x)) ∧ Aw [] W w') :
    Calls Tryz.prog 88 #[.slice A n cap, .func (.func 47) #[] #[]] w fun e w' => e = .returned (.int .i64 (idxFrom p xs 0)) ∧ Aw [] w w' := by
  have hll := hl.1
  have HP := Lib.hid hp
  clear hp
  obtain ⟨R, hR⟩ : ∃ R, idxFrom p xs 0 = R := ⟨_, rfl⟩
  rw [hR]
  have H0 : Hid (idxFrom p (xs.drop 0) 0 = R) := Lib.hid (by rw [List.drop_zero]; exact hR)
  clear hR
  go_enter Tryz.func88, Tryz.ntmps88
  go_wp2_with fail
  go_loopw [8] (fun i wr => ∃ k : Nat, k ≤ n ∧ i = .int .i64 k ∧ Hid (idxFrom p (xs.drop k) k = R) ∧ Aw [] w wr) (fun i _ => n - (intOf i).toNat)
  case atStart => exact ⟨0, by omega, rfl, H0, Aw.refl _ _⟩
  case round =>
    obtain ⟨k, hk, rfl, HG, hA⟩ := hrel
    clear H0
    have hG := HG.out
    clear HG
    by_cases hlt : k < n
    · have hd : decide ((k : Int) < n) = true := decide_eq_true (by omega)
      have hk0 : (0 : Int) ≤ k := by omega
      have hk1 : (k : Int) < n := by omega
      have hl1 := hl.aw hA hB (by simp)
      obtain ⟨b, off, rfl, hb, hcs⟩ := hl1.2 (by omega)
      obtain ⟨X, hX⟩ : ∃ X, xs[k]? = some X := ⟨_, List.getElem?_eq_getElem (by omega)⟩
      have q0 : wr.cell? ⟨b, off + k * 2, none⟩ = some (.string X.1) := hcs k X 0 _ hX rfl
      have q1 : wr.cell? ⟨b, off + k * 2 + 1, none⟩ = some (.string X.2) := hcs k X 1 _ hX rfl
      have kP := HP.out X (List.mem_of_getElem? hX) wr hA
      rw [drop_at hX, idxFrom] at hG
      clear hcs hX hl1
      cases hq : p X
      · rw [hq] at kP hG
        rw [if_neg (by simp)] at hG
        have HN := Lib.hid hG
        clear hG hq
        go_wp2_with (go_at_call 47; (with_reducible refine kP.mono ?_); rintro e w1 ⟨rfl, hA1⟩)
        exact ⟨⟨k + 1, by omega, rfl, HN, hA.trans hA1⟩, by (simp only [intOf]; omega)⟩
      · rw [hq] at kP hG
        rw [if_pos rfl] at hG
        subst hG
        clear hq
        go_wp2_with (go_at_call 47; (with_reducible refine kP.mono ?_); rintro e w1 ⟨rfl, hA1⟩)
        go_ret
        exact ⟨rfl, hA.trans hA1⟩
    · have hd : decide ((k : Int) < n) = false := decide_eq_false (by omega)
      rw [List.drop_of_length_le (by omega), idxFrom] at hG
      subst hG
      go_wp2_with fail
      go_ret
      exact ⟨rfl, hA⟩
theorem conL_any (cb : Nat) (A : Option Addr) (n cap B : Nat) (xs : List Lab) (p : Lab → Bool) (w : World) (hl : IsRows labCell 2 w B A n xs) (hB : B ≤ w.heap.size) (hn : n ≤ 2097152)
    (hp : ∀ x ∈ xs, ∀ W, Aw [] w W → Calls Tryz.prog 47 #[.agg #[.string x.1, .string x.2]] W fun e w' => e = .returned (.bool (p x)) ∧ Aw [] W w') :
    Calls Tryz.prog 48 #[.slice A n cap, .func (.func 47) #[] #[]] w fun e w' => e = .returned (.bool (xs.any p)) ∧ Aw [] w w' := by
  have kI := idxL_any cb A n cap B xs p w hl hB hn hp
  have HB := Lib.hid (idxFrom_any p xs 0)
  generalize idxFrom p xs 0 = I at *
  generalize xs.any p = D at *
  clear hp
  cases hb : decide (0 ≤ I)
  all_goals
    go_enter Tryz.func48, Tryz.ntmps48
    go_wp2_with (go_at_call 88; (with_reducible refine kI.mono ?_); rintro e w1 ⟨rfl, hA1⟩)
    go_ret
    exact ⟨ret_bool (by rw [← HB.out, hb]), hA1⟩
set_option maxHeartbeats 3200000 in
theorem idxF_any (cb : Nat) (A : Option Addr) (n cap B : Nat) (xs : List VFam) (p : VFam → Bool) (w : World) (hl : IsRows famCell 5 w B A n xs) (hB : B ≤ w.heap.size) (hn : n ≤ 2097152)
    (hp : ∀ x ∈ xs, ∀ W, Aw [] w W → Calls Tryz.prog 98 #[.agg #[.string x.name, .int .i64 (x.kind : Int), .string x.unit, .string x.help, .slice x.A x.pts.length x.c], .pointer (some ⟨cb, 0, none⟩)] W fun e w' => e = .returned (.bool (p x)) ∧ Aw [] W w') :
    Calls Tryz.prog 97 #[.slice A n cap, .func (.func 98) #[] #[.pointer (some ⟨cb, 0, none⟩)]] w fun e w' => e = .returned (.int .i64 (idxFrom p xs 0)) ∧ Aw [] w w' := by
  have hll := hl.1
  have HP := Lib.hid hp
  clear hp
  obtain ⟨R, hR⟩ : ∃ R, idxFrom p xs 0 = R := ⟨_, rfl⟩
  rw [hR]
  have H0 : Hid (idxFrom p (xs.drop 0) 0 = R) := Lib.hid (by rw [List.drop_zero]; exact hR)
  clear hR
  go_enter Tryz.func97, Tryz.ntmps97
  go_wp2_with fail
  go_loopw [8] (fun i wr => ∃ k : Nat, k ≤ n ∧ i = .int .i64 k ∧ Hid (idxFrom p (xs.drop k) k = R) ∧ Aw [] w wr) (fun i _ => n - (intOf i).toNat)
  case atStart => exact ⟨0, by omega, rfl, H0, Aw.refl _ _⟩
  case round =>
    obtain ⟨k, hk, rfl, HG, hA⟩ := hrel
    clear H0
    have hG := HG.out
    clear HG
    by_cases hlt : k < n
    · have hd : decide ((k : Int) < n) = true := decide_eq_true (by omega)
      have hk0 : (0 : Int) ≤ k := by omega
      have hk1 : (k : Int) < n := by omega
      have hl1 := hl.aw hA hB (by simp)
      obtain ⟨b, off, rfl, hb, hcs⟩ := hl1.2 (by omega)
      obtain ⟨X, hX⟩ : ∃ X, xs[k]? = some X := ⟨_, List.getElem?_eq_getElem (by omega)⟩
      have q0 : wr.cell? ⟨b, off + k * 5, none⟩ = some (.string X.name) := hcs k X 0 _ hX rfl
      have q1 : wr.cell? ⟨b, off + k * 5 + 1, none⟩ = some (.int .i64 (X.kind : Int)) := hcs k X 1 _ hX rfl
      have q2 : wr.cell? ⟨b, off + k * 5 + 2, none⟩ = some (.string X.unit) := hcs k X 2 _ hX rfl
      have q3 : wr.cell? ⟨b, off + k * 5 + 3, none⟩ = some (.string X.help) := hcs k X 3 _ hX rfl
      have q4 : wr.cell? ⟨b, off + k * 5 + 4, none⟩ = some (.slice X.A X.pts.length X.c) := hcs k X 4 _ hX rfl
      have kP := HP.out X (List.mem_of_getElem? hX) wr hA
      rw [drop_at hX, idxFrom] at hG
      clear hcs hX hl1
      cases hq : p X
      · rw [hq] at kP hG
        rw [if_neg (by simp)] at hG
        have HN := Lib.hid hG
        clear hG hq
        go_wp2_with (go_at_call 98; (with_reducible refine kP.mono ?_); rintro e w1 ⟨rfl, hA1⟩)
        exact ⟨⟨k + 1, by omega, rfl, HN, hA.trans hA1⟩, by (simp only [intOf]; omega)⟩
      · rw [hq] at kP hG
        rw [if_pos rfl] at hG
        subst hG
        clear hq
        go_wp2_with (go_at_call 98; (with_reducible refine kP.mono ?_); rintro e w1 ⟨rfl, hA1⟩)
        go_ret
        exact ⟨rfl, hA.trans hA1⟩
    · have hd : decide ((k : Int) < n) = false := decide_eq_false (by omega)
      rw [List.drop_of_length_le (by omega), idxFrom] at hG
      subst hG
      go_wp2_with fail
      go_ret
      exact ⟨rfl, hA⟩
set_option maxHeartbeats 3200000 in
theorem idxP_any (cb : Nat) (A : Option Addr) (n cap B : Nat) (xs : List VPnt) (p : VPnt → Bool) (w : World) (hl : IsRows pntCell 9 w B A n xs) (hB : B ≤ w.heap.size) (hn : n ≤ 2097152)
    (hp : ∀ x ∈ xs, ∀ W, Aw [] w W → Calls Tryz.prog 100 #[.agg #[.slice x.A x.pt.labels.length x.c, .int .i64 (x.pt.role : Int), .bool x.pt.inf, .int .i64 x.pt.bM, .int .i64 (x.pt.bS : Int), .int .i64 x.pt.vM, .int .i64 (x.pt.vS : Int), .bool x.pt.timed, .int .i64 x.pt.time], .pointer (some ⟨cb, 0, none⟩)] W fun e w' => e = .returned (.bool (p x)) ∧ Aw [] W w') :
    Calls Tryz.prog 161 #[.slice A n cap, .func (.func 100) #[] #[.pointer (some ⟨cb, 0, none⟩)]] w fun e w' => e = .returned (.int .i64 (idxFrom p xs 0)) ∧ Aw [] w w' := by
  have hll := hl.1
  have HP := Lib.hid hp
  clear hp
  obtain ⟨R, hR⟩ : ∃ R, idxFrom p xs 0 = R := ⟨_, rfl⟩
  rw [hR]
  have H0 : Hid (idxFrom p (xs.drop 0) 0 = R) := Lib.hid (by rw [List.drop_zero]; exact hR)
  clear hR
  go_enter Tryz.func161, Tryz.ntmps161
  go_wp2_with fail
  go_loopw [8] (fun i wr => ∃ k : Nat, k ≤ n ∧ i = .int .i64 k ∧ Hid (idxFrom p (xs.drop k) k = R) ∧ Aw [] w wr) (fun i _ => n - (intOf i).toNat)
  case atStart => exact ⟨0, by omega, rfl, H0, Aw.refl _ _⟩
  case round =>
    obtain ⟨k, hk, rfl, HG, hA⟩ := hrel
    clear H0
    have hG := HG.out
    clear HG
    by_cases hlt : k < n
    · have hd : decide ((k : Int) < n) = true := decide_eq_true (by omega)
      have hk0 : (0 : Int) ≤ k := by omega
      have hk1 : (k : Int) < n := by omega
      have hl1 := hl.aw hA hB (by simp)
      obtain ⟨b, off, rfl, hb, hcs⟩ := hl1.2 (by omega)
      obtain ⟨X, hX⟩ : ∃ X, xs[k]? = some X := ⟨_, List.getElem?_eq_getElem (by omega)⟩
      have q0 : wr.cell? ⟨b, off + k * 9, none⟩ = some (.slice X.A X.pt.labels.length X.c) := hcs k X 0 _ hX rfl
      have q1 : wr.cell? ⟨b, off + k * 9 + 1, none⟩ = some (.int .i64 (X.pt.role : Int)) := hcs k X 1 _ hX rfl
      have q2 : wr.cell? ⟨b, off + k * 9 + 2, none⟩ = some (.bool X.pt.inf) := hcs k X 2 _ hX rfl
      have q3 : wr.cell? ⟨b, off + k * 9 + 3, none⟩ = some (.int .i64 X.pt.bM) := hcs k X 3 _ hX rfl
      have q4 : wr.cell? ⟨b, off + k * 9 + 4, none⟩ = some (.int .i64 (X.pt.bS : Int)) := hcs k X 4 _ hX rfl
      have q5 : wr.cell? ⟨b, off + k * 9 + 5, none⟩ = some (.int .i64 X.pt.vM) := hcs k X 5 _ hX rfl
      have q6 : wr.cell? ⟨b, off + k * 9 + 6, none⟩ = some (.int .i64 (X.pt.vS : Int)) := hcs k X 6 _ hX rfl
      have q7 : wr.cell? ⟨b, off + k * 9 + 7, none⟩ = some (.bool X.pt.timed) := hcs k X 7 _ hX rfl
      have q8 : wr.cell? ⟨b, off + k * 9 + 8, none⟩ = some (.int .i64 X.pt.time) := hcs k X 8 _ hX rfl
      have kP := HP.out X (List.mem_of_getElem? hX) wr hA
      rw [drop_at hX, idxFrom] at hG
      clear hcs hX hl1
      cases hq : p X
      · rw [hq] at kP hG
        rw [if_neg (by simp)] at hG
        have HN := Lib.hid hG
        clear hG hq
        go_wp2_with (go_at_call 100; (with_reducible refine kP.mono ?_); rintro e w1 ⟨rfl, hA1⟩)
        exact ⟨⟨k + 1, by omega, rfl, HN, hA.trans hA1⟩, by (simp only [intOf]; omega)⟩
      · rw [hq] at kP hG
        rw [if_pos rfl] at hG
        subst hG
        clear hq
        go_wp2_with (go_at_call 100; (with_reducible refine kP.mono ?_); rintro e w1 ⟨rfl, hA1⟩)
        go_ret
        exact ⟨rfl, hA.trans hA1⟩
    · have hd : decide ((k : Int) < n) = false := decide_eq_false (by omega)
      rw [List.drop_of_length_le (by omega), idxFrom] at hG
      subst hG
      go_wp2_with fail
      go_ret
      exact ⟨rfl, hA⟩
theorem conP_any (cb : Nat) (A : Option Addr) (n cap B : Nat) (xs : List VPnt) (p : VPnt → Bool) (w : World) (hl : IsRows pntCell 9 w B A n xs) (hB : B ≤ w.heap.size) (hn : n ≤ 2097152)
    (hp : ∀ x ∈ xs, ∀ W, Aw [] w W → Calls Tryz.prog 100 #[.agg #[.slice x.A x.pt.labels.length x.c, .int .i64 (x.pt.role : Int), .bool x.pt.inf, .int .i64 x.pt.bM, .int .i64 (x.pt.bS : Int), .int .i64 x.pt.vM, .int .i64 (x.pt.vS : Int), .bool x.pt.timed, .int .i64 x.pt.time], .pointer (some ⟨cb, 0, none⟩)] W fun e w' => e = .returned (.bool (p x)) ∧ Aw [] W w') :
    Calls Tryz.prog 99 #[.slice A n cap, .func (.func 100) #[] #[.pointer (some ⟨cb, 0, none⟩)]] w fun e w' => e = .returned (.bool (xs.any p)) ∧ Aw [] w w' := by
  have kI := idxP_any cb A n cap B xs p w hl hB hn hp
  have HB := Lib.hid (idxFrom_any p xs 0)
  generalize idxFrom p xs 0 = I at *
  generalize xs.any p = D at *
  clear hp
  cases hb : decide (0 ≤ I)
  all_goals
    go_enter Tryz.func99, Tryz.ntmps99
    go_wp2_with (go_at_call 161; (with_reducible refine kI.mono ?_); rintro e w1 ⟨rfl, hA1⟩)
    go_ret
    exact ⟨ret_bool (by rw [← HB.out, hb]), hA1⟩
end
section
structure DA (w0 w : World) (r : Nat) (c o l k : Int) (s : ByteArray) (rv fv : Value) (fs : List VFam) (N : Nat) : Prop where
  rd : Dr w r c o l k s rv fv N
  fams : FamsAt w w0.heap.size fv fs
  aw : Aw [r] w0 w
  rl : r < w0.heap.size
structure FOk (fs : List VFam) (N : Nat) : Prop where
  len : fs.length ≤ 30
  num : N ≤ 120
  pts : ∀ f ∈ fs, f.pts.length ≤ N ∧ ∀ x ∈ f.pts, PntOk x.pt
/-- What puts does. -/
def PutsP (w0 w : World) (r : Nat) (c o l k : Int) (s : ByteArray) (rv : Value) (N : Nat) : Except (Nat × Nat) (List MFam) → Ending → Prop
  | .error x, en => en = .returned (.bool false) ∧ (∃ fv N', Drf w r x.1 x.2 s rv fv N') ∧ Aw [r] w0 w
  | .ok gs, en => en = .returned (.bool true) ∧ ∃ fv' fs', fs'.map VFam.fam = gs ∧ DA w0 w r c o l k s rv fv' fs' (N + 1) ∧ FOk fs' (N + 1)
section
variable {w0 w w' : World} {r N : Nat} {c o l k : Int} {s : ByteArray} {rv fv : Value} {fs : List VFam}
theorem DA.call (h : DA w0 w r c o l k s rv fv fs N) (a : Aw [] w w') : DA w0 w' r c o l k s rv fv fs N :=
  ⟨h.rd.aw a (by simp), h.fams.aw a (by simp), h.aw.trans (a.mono (by simp)), h.rl⟩
theorem DA.drew (h : DA w0 w r c o l k s rv fv fs N) : DA w0 w.drew r c o l k s rv fv fs N := h.call (Aw.refl [] w).drew
theorem DA.alloc (h : DA w0 w r c o l k s rv fv fs N) (ob : Obj) : DA w0 (w.alloc ob) r c o l k s rv fv fs N := h.call ((Aw.refl [] w).alloc ob)
/-- Where a family stands. -/
theorem FamsAt.at_ {base i : Nat} {X : VFam} (h : FamsAt w base fv fs) (hx : fs[i]? = some X) : ∃ g fc, fv = .slice (some ⟨g, 0, none⟩) fs.length fc ∧ base ≤ g ∧ w.cell? ⟨g, i * 5 + 4, none⟩ = some X.pv ∧ w.frozen? ⟨g, i * 5 + 4, none⟩ = false := by
  have hi : i < fs.length := (List.getElem?_eq_some_iff.1 hx).1
  have hr := h.own
  obtain ⟨A, fc, hv⟩ := h.form
  have hrow := (hv ▸ h).rows
  obtain ⟨b, off, e, hb, hc⟩ := hrow.2 (by omega)
  have h4 := hc i X 4 X.pv hx rfl
  rcases hr.2 with ⟨_, h0⟩ | ⟨g, cap, cur, e2, hb2, _⟩
  · have h1 : fs.length = 0 := h0
    omega
  · rw [e2] at hv
    injection hv with e3 e4 e5
    subst e
    injection e3 with e3
    injection e3 with e6 e7
    subst e6 e7
    have hr2 := hr
    rw [e2] at hr2
    refine ⟨g, cap, e2, hb2, ?_, hr2.frozenAt _⟩
    simpa using h4
theorem FamsAt.own_grown {base : Nat} {X : VFam} (h : FamsAt w base fv fs) (hx : X ∈ fs) (hg : w.grownBy w' X.pv.ownBlock) : w'.ownsRow base 66 5 fv fs.length (fs.flatMap famCell) :=
  h.own.kept hg (by
    cases hb : Value.ownBlock _ with
    | none => exact .inl rfl
    | some b => exact .inr (fun e => own_own_ne h.own (h.pts X hx) (by decide) b hb e.symm))
/-- What is left to do once the family stands. -/
def putT (FS : List VFam) (i : Nat) (X : VFam) (N : Nat) (p : VPnt) (at_ : Nat) : Except (Nat × Nat) (List MFam) :=
  if 30 < FS.length then .error (14, at_)
  else if X.pts.any (fun y => samePnt p.pt y.pt) then .error (13, at_)
  else if 120 ≤ N then .error (14, at_)
  else .ok ((FS.map VFam.fam).set i { X.fam with pts := X.fam.pts ++ [p.pt] })
def nmP (n : ByteArray) (x : VFam) : Bool := x.name.data.toList == n.data.toList
theorem famIx_map (n : ByteArray) (fs : List VFam) : famIx (fs.map VFam.fam) n = fs.findIdx (nmP n) := by
  unfold famIx
  rw [List.findIdx_map]
  rfl
theorem putT_yes {n : ByteArray} {i : Nat} {X : VFam} {p : VPnt} {at_ : Nat} (hx : fs[i]? = some X) (hi : fs.findIdx (nmP n) = i) : putD (fs.map VFam.fam) N n p.pt at_ = putT fs i X N p at_ := by
  have hil : i < fs.length := (List.getElem?_eq_some_iff.1 hx).1
  have e1 : famsOf (fs.map VFam.fam) n = fs.map VFam.fam := by
    unfold famsOf
    rw [famIx_map, hi, List.length_map, if_pos hil]
  have e2 : famAt (fs.map VFam.fam) n = X.fam := by
    unfold famAt
    rw [e1, famIx_map, hi, List.getD_eq_getElem?_getD, List.getElem?_map, hx]
    rfl
  have e3 : X.fam.pts.any (samePnt p.pt) = X.pts.any (fun y => samePnt p.pt y.pt) := by
    simp only [VFam.fam, List.any_map]
    rfl
  unfold putD putT
  rw [e2, e1, List.length_map, e3, famIx_map, hi]
def newFam (n : ByteArray) : VFam := ⟨n, 0, ⟨#[]⟩, ⟨#[]⟩, [], none, 0⟩
theorem putT_no {n : ByteArray} {p : VPnt} {at_ : Nat} (hi : ¬ fs.findIdx (nmP n) < fs.length) : putD (fs.map VFam.fam) N n p.pt at_ = putT (fs ++ [newFam n]) fs.length (newFam n) N p at_ := by
  have hi2 : fs.findIdx (nmP n) = fs.length := by have := List.findIdx_le_length (p := nmP n) (xs := fs); omega
  have e1 : famsOf (fs.map VFam.fam) n = (fs ++ [newFam n]).map VFam.fam := by
    unfold famsOf
    rw [famIx_map, List.length_map, if_neg hi, List.map_append]
    rfl
  have e2 : famAt (fs.map VFam.fam) n = (newFam n).fam := by
    unfold famAt
    rw [e1, famIx_map, hi2, List.getD_eq_getElem?_getD, List.getElem?_map]
    simp
  unfold putD putT
  rw [e2, e1, List.length_map, famIx_map, hi2]
  rfl
theorem FOk.put {i : Nat} {X : VFam} {p : VPnt} {A : Option Addr} {cc : Nat} (h30 : fs.length ≤ 30) (hN : N < 120) (h : ∀ f ∈ fs, f.pts.length ≤ N ∧ ∀ x ∈ f.pts, PntOk x.pt) (hx : fs[i]? = some X) (kp : PntOk p.pt) : FOk (fs.set i (X.putP p A cc)) (N + 1) :=
  ⟨by rw [List.length_set]; exact h30, by omega, fun f hf => by
    rcases List.mem_or_eq_of_mem_set hf with h1 | rfl
    · exact ⟨by have := (h f h1).1; omega, (h f h1).2⟩
    · have hX := h X (List.mem_of_getElem? hx)
      refine ⟨by have := hX.1; simp [VFam.putP]; omega, fun x hx => ?_⟩
      rcases List.mem_append.1 hx with h2 | h2
      · exact hX.2 x h2
      · rw [List.mem_singleton] at h2; subst h2; exact kp⟩
theorem put_fam {i : Nat} {X : VFam} {p : VPnt} {A : Option Addr} {cc : Nat} : (fs.set i (X.putP p A cc)).map VFam.fam = (fs.map VFam.fam).set i { X.fam with pts := X.fam.pts ++ [p.pt] } := by
  rw [List.map_set]
  simp [VFam.putP, VFam.fam]
end
end
section
set_option maxRecDepth 100000 in
set_option maxHeartbeats 12800000 in
theorem puts_any (r : Nat) (c o l k : Int) (s : ByteArray) (rv fv : Value) (fs : List VFam) (N : Nat) (n : ByteArray) (p : VPnt) (at_ : Nat) (w0 w : World)
    (h : DA w0 w r c o l k s rv fv fs N) (hs : s.size ≤ 1048576) (hpl : w.ownsRow w0.heap.size 118 2 p.lv p.pt.labels.length (p.pt.labels.flatMap labCell)) (kp : PntOk p.pt) (kf : FOk fs N) :
    Calls Tryz.prog 54 #[.pointer (some ⟨r, 0, none⟩), .string n, .agg #[.slice p.A p.pt.labels.length p.c, .int .i64 (p.pt.role : Int), .bool p.pt.inf, .int .i64 p.pt.bM, .int .i64 (p.pt.bS : Int), .int .i64 p.pt.vM, .int .i64 (p.pt.vS : Int), .bool p.pt.timed, .int .i64 p.pt.time], .int .i64 (at_ : Int)] w fun en w' => PutsP w0 w' r c o l k s rv N (putD (fs.map VFam.fam) N n p.pt at_) en := by
  obtain ⟨x0, hx0, hxz0, hxz1, hxz2⟩ := info_parts Tryz.infoPnt
  have hu : Tryz.prog.underlying 64 = some (.slice 70) := by kernel_rfl
  obtain ⟨j0, hj0, hy0, hy1, hy2⟩ := info_parts Tryz.infoFam
  have hv : Tryz.prog.underlying 41 = some (.slice 66) := by kernel_rfl
  have hmf : ∀ (fn : Fn) (first cap : Array Value) (w : World), (Instr.makeFunc fn first cap).run Tryz.prog w = .ok (.func fn first cap) w := fun _ _ _ _ => rfl
  have KP := Lib.hid kp
  have KF := Lib.hid kf
  have kN := kf.num
  have k30 := kf.len
  have hrl := h.rl
  clear kp kf
  have hz : (w.alloc (.cells #[.string n] 9)).heap.size = w.heap.size + 1 := by simp
  have hA := ((Aw.refl [] w).alloc (.cells #[.string n] 9)).alloc (.cells #[.slice p.A p.pt.labels.length p.c, .int .i64 (p.pt.role : Int), .bool p.pt.inf, .int .i64 p.pt.bM, .int .i64 (p.pt.bS : Int), .int .i64 p.pt.vM, .int .i64 (p.pt.vS : Int), .bool p.pt.timed, .int .i64 p.pt.time] 70)
  have hD := h.call hA
  have hb5 := Blk.alloc (Blk.new w 9 #[.string n]) (.cells #[.slice p.A p.pt.labels.length p.c, .int .i64 (p.pt.role : Int), .bool p.pt.inf, .int .i64 p.pt.bM, .int .i64 (p.pt.bS : Int), .int .i64 p.pt.vM, .int .i64 (p.pt.vS : Int), .bool p.pt.timed, .int .i64 p.pt.time] 70)
  have hb6 := Blk.new (w.alloc (.cells #[.string n] 9)) 70 #[.slice p.A p.pt.labels.length p.c, .int .i64 (p.pt.role : Int), .bool p.pt.inf, .int .i64 p.pt.bM, .int .i64 (p.pt.bS : Int), .int .i64 p.pt.vM, .int .i64 (p.pt.vS : Int), .bool p.pt.timed, .int .i64 p.pt.time]
  rw [hz] at hb6
  have hpl2 := own_aw hpl hA (by simp)
  clear hz hA hpl h
  obtain ⟨R, hR⟩ : ∃ R, putD (fs.map VFam.fam) N n p.pt at_ = R := ⟨_, rfl⟩
  rw [hR]
  go_enter Tryz.func54, Tryz.ntmps54
  go_upto_region 1 with (fail)
  generalize (w.alloc (.cells #[.string n] 9)).alloc (.cells #[.slice p.A p.pt.labels.length p.c, .int .i64 (p.pt.role : Int), .bool p.pt.inf, .int .i64 p.pt.bM, .int .i64 (p.pt.bS : Int), .int .i64 p.pt.vM, .int .i64 (p.pt.vS : Int), .bool p.pt.timed, .int .i64 p.pt.time] 70) = W at *
  generalize w.heap.size = b5 at *
  obtain ⟨fA, fc, rfl⟩ := hD.fams.form
  have kI := idxF_any b5 fA fs.length fc W.heap.size fs (nmP n) W hD.fams.rows (Nat.le_refl _) (by omega) (fun x _ W2 hA2 => named_any b5 n x W2 ((Blk.cell (Blk.aw hb5 hA2 (by simp)) 0).trans rfl))
  rw [idxFrom_at] at kI
  have kF13 : ∀ fv N W, Dr W r c o l k s rv fv N → Calls Tryz.prog 49 #[.pointer (some ⟨r, 0, none⟩), .int .i64 13, .int .i64 (at_ : Int)] W fun e w' => e = .returned (.bool false) ∧ Drf w' r 13 at_ s rv fv N ∧ Aw [r] W w' := fun fv N W h => dfails_any r c o l k s rv fv N 13 at_ W h hs
  have kF14 : ∀ fv N W, Dr W r c o l k s rv fv N → Calls Tryz.prog 49 #[.pointer (some ⟨r, 0, none⟩), .int .i64 14, .int .i64 (at_ : Int)] W fun e w' => e = .returned (.bool false) ∧ Drf w' r 14 at_ s rv fv N ∧ Aw [r] W w' := fun fv N W h => dfails_any r c o l k s rv fv N 14 at_ W h hs
  obtain ⟨⟨_, _, _, _, _, _, r6, r7⟩, _, _, _, _, f6, f7⟩ := hD.rd.facts
  by_cases hi : fs.findIdx (nmP n) < fs.length
  case pos =>
    rw [if_pos hi, Nat.zero_add] at kI
    obtain ⟨X, hX⟩ : ∃ X, fs[fs.findIdx (nmP n)]? = some X := ⟨_, List.getElem?_eq_getElem hi⟩
    rw [putT_yes hX rfl] at hR
    have HR := Lib.hid hR
    generalize fs.findIdx (nmP n) = i at *
    clear hR
    obtain ⟨g, fc', e1, hg, _, _⟩ := hD.fams.at_ hX
    injection e1 with e1 e2 e3
    subst e1 e3
    have di : decide ((i : Int) < 0) = false := decide_eq_false (by omega)
    have hi0 : (0 : Int) ≤ i := by omega
    have hi1 : (i : Int) < fs.length := by omega
    have HX := Lib.hid hX
    clear hX
    go_upto_region 5 with (go_at_call 97; (with_reducible refine kI.mono ?_); rintro e w5 ⟨rfl, hA5⟩; have hD5 := hD.call hA5)
    replace hb6 := Blk.aw hb6 hA5 (by simp)
    replace hpl2 := own_aw hpl2 hA5 (by simp)
    clear kI hD hA5 hb5 r6 r7 f6 f7 di
    have KFS := Lib.hid KF.out.pts
    have k31 : fs.length ≤ 31 := by omega
    clear KF k30
    generalize fs = FS at *
    obtain ⟨gq, fq, e1q, hgq, c4, z4⟩ := hD5.fams.at_ HX.out
    injection e1q with e1q e2q e3q
    injection e1q with e1q
    injection e1q with e1q e4q
    clear e2q e4q
    subst e1q e3q
    have hXm := List.mem_of_getElem? HX.out
    have hKX := KFS.out X hXm
    have hqo := hD5.fams.pts X hXm
    have hrp : IsRows pntCell 9 w5 w5.heap.size X.A X.pts.length X.pts := by
      obtain ⟨A', cap', e, hr⟩ := own_rws (f := pntCell) (fun _ => rfl) hqo rfl
      injection e with e1 e2 e3
      subst e1
      exact hr
    have c4' : w5.cell? ⟨g, i * 5 + 4, none⟩ = some (.slice X.A X.pts.length X.c) := c4
    have kC := conP_any (b5 + 1) X.A X.pts.length X.c w5.heap.size X.pts (fun y => samePnt p.pt y.pt) w5 hrp (Nat.le_refl _) (by have := hKX.1; omega) (fun y hy W2 hA2 => same_any (b5 + 1) p y W2 (Blk.aw hb6 hA2 (by simp)) (own_labR (own_aw hpl2 hA2 (by simp)) rfl) (own_labR (own_aw (hD5.fams.lab X hXm y hy) hA2 (by simp)) rfl) KP.out (hKX.2 y hy))
    have hKXl := hKX.1
    have HKX := Lib.hid hKX
    have hR := HR.out
    unfold putT at hR
    clear HR c4 hrp hKX
    obtain ⟨⟨_, _, _, _, _, _, s6, s7⟩, _, _, _, _, g6, g7⟩ := hD5.rd.facts
    by_cases h31 : 30 < FS.length
    · rw [if_pos h31] at hR
      have d1 : decide ((30 : Int) < (FS.length : Int)) = true := decide_eq_true (by omega)
      have d1n : decide (30 < FS.length) = true := decide_eq_true h31
      subst hR
      go_wp2_with (go_at_call 49; (with_reducible refine (kF14 _ _ _ hD5.rd).mono ?_); rintro en w9 ⟨rfl, h9, hA9⟩)
      go_ret
      exact ⟨rfl, ⟨_, _, h9⟩, hD5.aw.trans hA9⟩
    rw [if_neg h31] at hR
    have d1 : decide ((30 : Int) < (FS.length : Int)) = false := decide_eq_false (by omega)
    have d1n : decide (30 < FS.length) = false := decide_eq_false h31
    have h30 : FS.length ≤ 30 := by omega
    clear h31
    cases hs2 : X.pts.any (fun y => samePnt p.pt y.pt)
    case true =>
      rw [hs2, if_pos rfl] at hR
      rw [hs2] at kC
      subst hR
      go_wp2_with (first
        | (go_at_call 99; (with_reducible refine kC.mono ?_); rintro en w8 ⟨rfl, hA8⟩; have hD8 := hD5.call hA8)
        | (go_at_call 49; (with_reducible refine (kF13 _ _ _ hD8.rd).mono ?_); rintro en w9 ⟨rfl, h9, hA9⟩))
      go_ret
      exact ⟨rfl, ⟨_, _, h9⟩, hD8.aw.trans hA9⟩
    rw [hs2, if_neg (by decide)] at hR
    rw [hs2] at kC
    by_cases h120 : 120 ≤ N
    · rw [if_pos h120] at hR
      have d2 : decide ((120 : Int) ≤ (N : Int)) = true := decide_eq_true (by omega)
      have d2n : decide (120 ≤ N) = true := decide_eq_true h120
      subst hR
      go_wp2_with (first
        | (go_at_call 99; (with_reducible refine kC.mono ?_); rintro en w8 ⟨rfl, hA8⟩; have hD8 := hD5.call hA8; obtain ⟨⟨_, _, _, _, _, _, s6, s7⟩, _, _, _, _, g6, g7⟩ := hD8.rd.facts)
        | (go_at_call 49; (with_reducible refine (kF14 _ _ _ hD8.rd).mono ?_); rintro en w9 ⟨rfl, h9, hA9⟩))
      go_ret
      exact ⟨rfl, ⟨_, _, h9⟩, hD8.aw.trans hA9⟩
    rw [if_neg h120] at hR
    have d2 : decide ((120 : Int) ≤ (N : Int)) = false := decide_eq_false (by omega)
    have d2n : decide (120 ≤ N) = false := decide_eq_false h120
    subst hR
    go_upto_region 12 with (first
        | (go_at_call 99; (with_reducible refine kC.mono ?_); rintro en w8 ⟨rfl, hA8⟩; have hD8 := hD5.call hA8; obtain ⟨⟨_, _, _, _, _, _, t6, t7⟩, _, _, _, _, k6, k7⟩ := hD8.rd.facts))
    have hq8 := hD8.fams.pts X hXm
    have e8 := (Blk.aw hb6 hA8 (by simp))
    have a0 := (Blk.cell e8 0).trans rfl; have a1 := (Blk.cell e8 1).trans rfl; have a2 := (Blk.cell e8 2).trans rfl; have a3 := (Blk.cell e8 3).trans rfl; have a4 := (Blk.cell e8 4).trans rfl; have a5 := (Blk.cell e8 5).trans rfl; have a6 := (Blk.cell e8 6).trans rfl; have a7 := (Blk.cell e8 7).trans rfl; have a8 := (Blk.cell e8 8).trans rfl
    have hpl8 := own_aw hpl2 hA8 (by simp)
    obtain ⟨g9, f9, e1q, hg9, c9, z9⟩ := hD8.fams.at_ HX.out
    injection e1q with e1q e2q e3q
    injection e1q with e1q
    injection e1q with e1q e4q
    clear e2q e4q
    subst e1q e3q
    have c9' : w8.cell? ⟨g, i * 5 + 4, none⟩ = some (.slice X.A X.pts.length X.c) := c9
    have hsz8 := hD8.aw.size
    have hi8 : i < FS.length := (List.getElem?_eq_some_iff.1 HX.out).1
    have hrg : r ≠ g := by omega
    have c9a : (w8.alloc (.cells #[.slice p.A p.pt.labels.length p.c, .int .i64 (p.pt.role : Int), .bool p.pt.inf, .int .i64 p.pt.bM, .int .i64 (p.pt.bS : Int), .int .i64 p.pt.vM, .int .i64 (p.pt.vS : Int), .bool p.pt.timed, .int .i64 p.pt.time] 70)).cell? ⟨g, i * 5 + 4, none⟩ = some (.slice X.A X.pts.length X.c) := (World.cell?_alloc_lt w8 _ ⟨g, _, none⟩ (lt_of_cell c9')).trans c9'
    have HFL := Lib.hid ((hD8.fams.own.cellAt (i * 5 + 4) (by omega)).symm.trans c9')
    have HPL := Lib.hid hpl8
    have HRES := Lib.hid (fun (A : Option Addr) (cc : Nat) => (FOk.put (A := A) (cc := cc) h30 (by omega) KFS.out HX.out KP.out))
    clear hb6 hpl2 hpl8 hA8 hD5 s6 s7 g6 g7 c4' z4 c9 kF13 kF14 kC hqo e8 hs2
    go_region_law (refine step_append_lies _ (by rfl) _ _ _ (by rfl) w0.heap.size 70 x0 _ 9 88 hu hx0 hxz0 hxz1 hxz2 rfl (by omega) (.slice X.A X.pts.length X.c) X.pts.length (X.pts.flatMap pntCell) (by rfl) (hD8.drew.fams.pts X hXm |>.alloc _) ⟨w8.heap.size, 0, none⟩ 1 1 (pntCell p) (by rfl) (by rfl) (World.news_of_block (heap_alloc_new w8.drew _)) (by simp [pntCell, Value.oneCell']) (by omega) (by simp [maxLen]; omega) (by omega) (by simp; omega) (w8.heap.size + 1) (by simp) ?_; intro gg capg w18 hown18 hgrow hat18 hlt18; have ho18 : w18.ownsRow w0.heap.size 66 5 (.slice (some ⟨g, 0, none⟩) FS.length fc) FS.length (FS.flatMap famCell) := FamsAt.own_grown (hD8.drew.alloc _).fams hXm hgrow; have f18 := ho18.frozenAt (i * 5 + 4); have c18 := (ho18.cellAt (i * 5 + 4) (by omega)).trans HFL.out)
    all_goals
      have hq18 := hD8.fams.pts X hXm
      have hF19 := FamsAt.put (hD8.drew.alloc _).fams HX.out hgrow (by
        rcases hat18 with h1 | h1
        · exact .inl h1.symm
        · exact .inr fun b hb => by
            injection hb with hb
            subst hb
            simp [h1]) hown18 (HPL.out.drew.alloc _)
      have hr19 := (show Dr w18 r c o l k s rv _ N from Blk.grown (w := _) (Blk.alloc hD8.drew.rd _) hgrow (fun e => own_blk_ne hq18 hD8.rd (by decide) e.symm)).far (p := ⟨g, i * 5 + 4, none⟩) hrg (.slice (some ⟨gg, 0, none⟩) (X.pts.length + 1) capg)
      have hA19 := ((hD8.drew.aw.alloc _).grown hgrow (fun k' hk => .inr (hq18.lt _ hk).1)).setCell (p := ⟨g, i * 5 + 4, none⟩) (.inr hgq) (.slice (some ⟨gg, 0, none⟩) (X.pts.length + 1) capg)
      clear hgrow hown18 ho18 f18 c18 hat18 hlt18
      generalize w18.setCell ⟨g, i * 5 + 4, none⟩ (.slice (some ⟨gg, 0, none⟩) (X.pts.length + 1) capg) = W19 at *
      obtain ⟨⟨_, _, _, _, _, _, v6, v7⟩, _, _, _, _, u6, u7⟩ := hr19.facts
      go_wp2_with fail
      go_ret
      exact ⟨rfl, _, _, put_fam, ⟨hr19.more, hF19.far hr19 (by decide) (by decide) (by decide) 7 _, hA19.setCell (.inl (by simp)) _, hrl⟩, HRES.out _ _⟩
  case neg =>
    rw [if_neg hi] at kI
    rw [putT_no hi] at hR
    have HR := Lib.hid hR
    clear hR
    go_upto_region 4 with (go_at_call 97; (with_reducible refine kI.mono ?_); rintro e w4 ⟨rfl, hA4⟩; have hD4 := hD.call hA4; obtain ⟨⟨_, _, _, _, _, _, s6, s7⟩, _, _, _, _, g6, g7⟩ := hD4.rd.facts)
    have e4 := Blk.aw hb5 hA4 (by simp)
    have m0 := (Blk.cell e4 0).trans rfl
    have s6a : (w4.alloc (.cells #[.string n, .int .i64 0, .string ⟨#[]⟩, .string ⟨#[]⟩, .slice none 0 0] 66)).cell? ⟨r, 6, none⟩ = some (.slice fA fs.length fc) := (World.cell?_alloc_lt w4 _ ⟨r, _, none⟩ (lt_of_cell s6)).trans s6
    replace hb6 := Blk.aw hb6 hA4 (by simp)
    replace hpl2 := own_aw hpl2 hA4 (by simp)
    have hsz4 := hD4.aw.size
    clear kI hD hA4 hb5 r6 r7 f6 f7
    go_region_law (refine step_append_lies _ (by rfl) _ _ _ (by rfl) w0.heap.size 66 j0 _ 5 80 hv hj0 hy0 hy1 hy2 rfl (by omega) (.slice fA fs.length fc) fs.length (fs.flatMap famCell) (by rfl) (hD4.drew.fams.own.alloc _) ⟨w4.heap.size, 0, none⟩ 1 1 (famCell (newFam n)) (by rfl) (by rfl) (World.news_of_block (heap_alloc_new w4.drew _)) (by simp [famCell, newFam, Value.oneCell']) (by omega) (by simp [maxLen]; omega) (by omega) (by simp; omega) (w4.heap.size + 1) (by simp) ?_; intro g cq w18 hown18 hgrow hat18 hlt18; have hr18 : Dr w18 r c o l k s rv (.slice fA fs.length fc) N := Blk.grown (w := _) (Blk.alloc hD4.drew.rd _) hgrow (fun e => own_blk_ne hD4.fams.own hD4.rd (by decide) e.symm); obtain ⟨⟨_, _, _, _, _, _, v6, v7⟩, _, _, _, _, u6, u7⟩ := hr18.facts)
    all_goals
      have hq4 := hD4.fams.own
      have hP := FamsAt.push (n := n) (hD4.drew.alloc _).fams hgrow hown18
      have hr19 := hr18.fams (.slice (some ⟨g, 0, none⟩) (fs.length + 1) cq)
      have hF19 := hP.far hr18 (by decide) (by decide) (by decide) 6 (.slice (some ⟨g, 0, none⟩) (fs.length + 1) cq)
      have hA19 := ((hD4.drew.aw.alloc _).grown hgrow (fun k' hk => .inr (hq4.lt _ hk).1)).setCell (p := ⟨r, 6, none⟩) (.inl (by simp)) (.slice (some ⟨g, 0, none⟩) (fs.length + 1) cq)
      have hb6a := Blk.far (Blk.grown (w := _) (Blk.alloc (Blk.aw hb6 (Aw.refl [] w4).drew (by simp)) _) hgrow (fun e => own_blk_ne hq4 hb6 (by decide) e.symm)) (p := ⟨r, 6, none⟩) (Blk.ne_ hb6 hD4.rd (by decide)) (.slice (some ⟨g, 0, none⟩) (fs.length + 1) cq)
      have hpl3 := (hpl2.drew.alloc (.cells #[.string n, .int .i64 0, .string ⟨#[]⟩, .string ⟨#[]⟩, .slice none 0 0] 66)).kept hgrow (by
        cases hb : Value.ownBlock _ with
        | none => exact .inl rfl
        | some b => exact .inr (fun e => own_own_ne hpl2 hq4 (by decide) b hb e.symm))
      have hpl4 := own_aw hpl3 ((Aw.refl [r] w18).setCell (p := ⟨r, 6, none⟩) (.inl (by simp)) (.slice (some ⟨g, 0, none⟩) (fs.length + 1) cq)) (fun b hb hm => own_blk_ne hpl3 hr18 (by decide) (by rw [List.mem_singleton] at hm; exact hm ▸ hb))
      have hD5 : DA w0 (w18.setCell ⟨r, 6, none⟩ (.slice (some ⟨g, 0, none⟩) (fs.length + 1) cq)) r c o l k s rv (.slice (some ⟨g, 0, none⟩) (fs.length + 1) cq) (fs ++ [newFam n]) N := ⟨hr19, hF19, hA19, hrl⟩
      have HX : Hid ((fs ++ [newFam n])[fs.length]? = some (newFam n)) := Lib.hid (by simp)
      have KFS : Hid (∀ f ∈ fs ++ [newFam n], f.pts.length ≤ N ∧ ∀ x ∈ f.pts, PntOk x.pt) := Lib.hid (fun f hf => by
        rcases List.mem_append.1 hf with h1 | h1
        · exact KF.out.pts f h1
        · rw [List.mem_singleton] at h1; subst h1; exact ⟨Nat.zero_le _, fun x hx => by simp [newFam] at hx⟩)
      have hl : fs.length + 1 = (fs ++ [newFam n]).length := by simp
      clear hq4 hP hr19 hF19 hA19 hpl3 hpl2 hr18 hown18 hgrow hat18 hlt18 v6 v7 u6 u7 hb6 hD4 s6 s7 g6 g7 s6a m0 e4 hi KF
      generalize w18.setCell ⟨r, 6, none⟩ (.slice (some ⟨g, 0, none⟩) (fs.length + 1) cq) = w5 at *
      rw [hl] at hD5
      have hb6 := hb6a
      have hpl2 := hpl4
      clear hb6a hpl4
      generalize fs ++ [newFam n] = FS at *
      generalize newFam n = X at *
      generalize fs.length = i at *
      have k31 : FS.length ≤ 31 := by omega
      obtain ⟨gq, fq, e1q, hgq, c4, z4⟩ := hD5.fams.at_ HX.out
      injection e1q with e1q e2q e3q
      injection e1q with e1q
      injection e1q with e1q e4q
      clear e2q e4q
      subst e1q e3q
      have hXm := List.mem_of_getElem? HX.out
      have hKX := KFS.out X hXm
      have hqo := hD5.fams.pts X hXm
      have hrp : IsRows pntCell 9 w5 w5.heap.size X.A X.pts.length X.pts := by
        obtain ⟨A', cap', e, hr⟩ := own_rws (f := pntCell) (fun _ => rfl) hqo rfl
        injection e with e1 e2 e3
        subst e1
        exact hr
      have c4' : w5.cell? ⟨g, i * 5 + 4, none⟩ = some (.slice X.A X.pts.length X.c) := c4
      have kC := conP_any (b5 + 1) X.A X.pts.length X.c w5.heap.size X.pts (fun y => samePnt p.pt y.pt) w5 hrp (Nat.le_refl _) (by have := hKX.1; omega) (fun y hy W2 hA2 => same_any (b5 + 1) p y W2 (Blk.aw hb6 hA2 (by simp)) (own_labR (own_aw hpl2 hA2 (by simp)) rfl) (own_labR (own_aw (hD5.fams.lab X hXm y hy) hA2 (by simp)) rfl) KP.out (hKX.2 y hy))
      have hKXl := hKX.1
      have HKX := Lib.hid hKX
      have hR := HR.out
      unfold putT at hR
      clear HR c4 hrp hKX
      obtain ⟨⟨_, _, _, _, _, _, s6, s7⟩, _, _, _, _, g6, g7⟩ := hD5.rd.facts
      by_cases h31 : 30 < FS.length
      · rw [if_pos h31] at hR
        have d1 : decide ((30 : Int) < (FS.length : Int)) = true := decide_eq_true (by omega)
        have d1n : decide (30 < FS.length) = true := decide_eq_true h31
        subst hR
        go_wp2_with (go_at_call 49; (with_reducible refine (kF14 _ _ _ hD5.rd).mono ?_); rintro en w9 ⟨rfl, h9, hA9⟩)
        go_ret
        exact ⟨rfl, ⟨_, _, h9⟩, hD5.aw.trans hA9⟩
      rw [if_neg h31] at hR
      have d1 : decide ((30 : Int) < (FS.length : Int)) = false := decide_eq_false (by omega)
      have d1n : decide (30 < FS.length) = false := decide_eq_false h31
      have h30 : FS.length ≤ 30 := by omega
      clear h31
      cases hs2 : X.pts.any (fun y => samePnt p.pt y.pt)
      case true =>
        rw [hs2, if_pos rfl] at hR
        rw [hs2] at kC
        subst hR
        go_wp2_with (first
          | (go_at_call 99; (with_reducible refine kC.mono ?_); rintro en w8 ⟨rfl, hA8⟩; have hD8 := hD5.call hA8)
          | (go_at_call 49; (with_reducible refine (kF13 _ _ _ hD8.rd).mono ?_); rintro en w9 ⟨rfl, h9, hA9⟩))
        go_ret
        exact ⟨rfl, ⟨_, _, h9⟩, hD8.aw.trans hA9⟩
      rw [hs2, if_neg (by decide)] at hR
      rw [hs2] at kC
      by_cases h120 : 120 ≤ N
      · rw [if_pos h120] at hR
        have d2 : decide ((120 : Int) ≤ (N : Int)) = true := decide_eq_true (by omega)
        have d2n : decide (120 ≤ N) = true := decide_eq_true h120
        subst hR
        go_wp2_with (first
          | (go_at_call 99; (with_reducible refine kC.mono ?_); rintro en w8 ⟨rfl, hA8⟩; have hD8 := hD5.call hA8; obtain ⟨⟨_, _, _, _, _, _, s6, s7⟩, _, _, _, _, g6, g7⟩ := hD8.rd.facts)
          | (go_at_call 49; (with_reducible refine (kF14 _ _ _ hD8.rd).mono ?_); rintro en w9 ⟨rfl, h9, hA9⟩))
        go_ret
        exact ⟨rfl, ⟨_, _, h9⟩, hD8.aw.trans hA9⟩
      rw [if_neg h120] at hR
      have d2 : decide ((120 : Int) ≤ (N : Int)) = false := decide_eq_false (by omega)
      have d2n : decide (120 ≤ N) = false := decide_eq_false h120
      subst hR
      go_upto_region 12 with (first
          | (go_at_call 99; (with_reducible refine kC.mono ?_); rintro en w8 ⟨rfl, hA8⟩; have hD8 := hD5.call hA8; obtain ⟨⟨_, _, _, _, _, _, t6, t7⟩, _, _, _, _, k6, k7⟩ := hD8.rd.facts))
      have hq8 := hD8.fams.pts X hXm
      have e8 := (Blk.aw hb6 hA8 (by simp))
      have a0 := (Blk.cell e8 0).trans rfl; have a1 := (Blk.cell e8 1).trans rfl; have a2 := (Blk.cell e8 2).trans rfl; have a3 := (Blk.cell e8 3).trans rfl; have a4 := (Blk.cell e8 4).trans rfl; have a5 := (Blk.cell e8 5).trans rfl; have a6 := (Blk.cell e8 6).trans rfl; have a7 := (Blk.cell e8 7).trans rfl; have a8 := (Blk.cell e8 8).trans rfl
      have hpl8 := own_aw hpl2 hA8 (by simp)
      obtain ⟨g9, f9, e1q, hg9, c9, z9⟩ := hD8.fams.at_ HX.out
      injection e1q with e1q e2q e3q
      injection e1q with e1q
      injection e1q with e1q e4q
      clear e2q e4q
      subst e1q e3q
      have c9' : w8.cell? ⟨g, i * 5 + 4, none⟩ = some (.slice X.A X.pts.length X.c) := c9
      have hsz8 := hD8.aw.size
      have hi8 : i < FS.length := (List.getElem?_eq_some_iff.1 HX.out).1
      have hrg : r ≠ g := by omega
      have c9a : (w8.alloc (.cells #[.slice p.A p.pt.labels.length p.c, .int .i64 (p.pt.role : Int), .bool p.pt.inf, .int .i64 p.pt.bM, .int .i64 (p.pt.bS : Int), .int .i64 p.pt.vM, .int .i64 (p.pt.vS : Int), .bool p.pt.timed, .int .i64 p.pt.time] 70)).cell? ⟨g, i * 5 + 4, none⟩ = some (.slice X.A X.pts.length X.c) := (World.cell?_alloc_lt w8 _ ⟨g, _, none⟩ (lt_of_cell c9')).trans c9'
      have HFL := Lib.hid ((hD8.fams.own.cellAt (i * 5 + 4) (by omega)).symm.trans c9')
      have HPL := Lib.hid hpl8
      have HRES := Lib.hid (fun (A : Option Addr) (cc : Nat) => (FOk.put (A := A) (cc := cc) h30 (by omega) KFS.out HX.out KP.out))
      clear hb6 hpl2 hpl8 hA8 hD5 s6 s7 g6 g7 c4' z4 c9 kF13 kF14 kC hqo e8 hs2
      go_region_law (refine step_append_lies _ (by rfl) _ _ _ (by rfl) w0.heap.size 70 x0 _ 9 88 hu hx0 hxz0 hxz1 hxz2 rfl (by omega) (.slice X.A X.pts.length X.c) X.pts.length (X.pts.flatMap pntCell) (by rfl) (hD8.drew.fams.pts X hXm |>.alloc _) ⟨w8.heap.size, 0, none⟩ 1 1 (pntCell p) (by rfl) (by rfl) (World.news_of_block (heap_alloc_new w8.drew _)) (by simp [pntCell, Value.oneCell']) (by omega) (by simp [maxLen]; omega) (by omega) (by simp; omega) (w8.heap.size + 1) (by simp) ?_; intro gg capg w18 hown18 hgrow hat18 hlt18; have ho18 : w18.ownsRow w0.heap.size 66 5 (.slice (some ⟨g, 0, none⟩) FS.length cq) FS.length (FS.flatMap famCell) := FamsAt.own_grown (hD8.drew.alloc _).fams hXm hgrow; have f18 := ho18.frozenAt (i * 5 + 4); have c18 := (ho18.cellAt (i * 5 + 4) (by omega)).trans HFL.out)
      all_goals
        have hq18 := hD8.fams.pts X hXm
        have hF19 := FamsAt.put (hD8.drew.alloc _).fams HX.out hgrow (by
          rcases hat18 with h1 | h1
          · exact .inl h1.symm
          · exact .inr fun b hb => by
              injection hb with hb
              subst hb
              simp [h1]) hown18 (HPL.out.drew.alloc _)
        have hr19 := (show Dr w18 r c o l k s rv _ N from Blk.grown (w := _) (Blk.alloc hD8.drew.rd _) hgrow (fun e => own_blk_ne hq18 hD8.rd (by decide) e.symm)).far (p := ⟨g, i * 5 + 4, none⟩) hrg (.slice (some ⟨gg, 0, none⟩) (X.pts.length + 1) capg)
        have hA19 := ((hD8.drew.aw.alloc _).grown hgrow (fun k' hk => .inr (hq18.lt _ hk).1)).setCell (p := ⟨g, i * 5 + 4, none⟩) (.inr hgq) (.slice (some ⟨gg, 0, none⟩) (X.pts.length + 1) capg)
        clear hgrow hown18 ho18 f18 c18 hat18 hlt18
        generalize w18.setCell ⟨g, i * 5 + 4, none⟩ (.slice (some ⟨gg, 0, none⟩) (X.pts.length + 1) capg) = W19 at *
        obtain ⟨⟨_, _, _, _, _, _, v6, v7⟩, _, _, _, _, u6, u7⟩ := hr19.facts
        go_wp2_with fail
        go_ret
        exact ⟨rfl, _, _, put_fam, ⟨hr19.more, hF19.far hr19 (by decide) (by decide) (by decide) 7 _, hA19.setCell (.inl (by simp)) _, hrl⟩, HRES.out _ _⟩
end
section
theorem parseD_bdR (l : List UInt8) : -9223372036854775807 ≤ (parseD l).1.1 ∧ (parseD l).1.1 ≤ 9223372036854775807 := by
  unfold parseD
  split
  · simp
  · rename_i wl pl a hc
    obtain ⟨g1, g2, _, _⟩ := cutD_dig hc
    split
    · simp
    · rename_i m hm
      have hb := numD_le _ 0 m (by omega) (fun c hc' => by
        rcases List.mem_append.1 hc' with h | h
        · exact (g1 c ((List.dropWhile_sublist _).subset h)).2
        · exact (g2 c (List.mem_reverse.1 ((List.dropWhile_sublist _).subset (List.mem_reverse.1 h)))).2) hm
      split
      · simp
      · simp only
        split <;> omega
theorem cutW_dig (l : List UInt8) (a : Nat) : ∀ c ∈ cutL l a (whA l digB a), c.toNat ≤ 57 := fun c hc => by
  unfold cutL whA at hc
  have e : ∀ (m : List UInt8) (p : UInt8 → Bool), m.take (m.takeWhile p).length = m.takeWhile p := fun m p => by
    conv => lhs; rhs; rw [← List.takeWhile_append_dropWhile (p := p) (l := m)]
    rw [List.take_left]
  rw [Nat.add_sub_cancel_left, e] at hc
  have h := List.all_eq_true.1 (List.all_takeWhile (p := fun c : UInt8 => digB c.toNat) (l := l.drop a)) c hc
  unfold digB at h
  simp at h
  omega
theorem intD_bd (l : List UInt8) : -9223372036854775807 ≤ (intD l).1 ∧ (intD l).1 ≤ 9223372036854775807 := by
  unfold intD
  split
  · simp
  · split
    · simp
    · rename_i m hm
      have hb := numD_le _ 0 m (by omega) (cutW_dig l _) hm
      simp only
      split <;> omega
theorem sortL_getD_len (L : List Lab) : ((sortL L).getD []).length ≤ L.length := by
  unfold sortL
  split
  · simp
  · simp
theorem takeGo_len : ∀ (ps ns nm : List ByteArray) (lb : List Lab), (takeGo ps ns nm lb).2.length ≤ lb.length + ps.length
  | [], ns, nm, lb => by simp [takeGo]
  | p :: ps, ns, nm, lb => by
    rw [takeGo]
    split
    · have := takeGo_len ps ns.tail (nm ++ [ns.headD default]) lb
      rw [List.length_cons]; omega
    · split
      · have := takeGo_len ps ns.tail (nm ++ ns) lb
        rw [List.length_cons]; omega
      · split
        · have := takeGo_len ps ns.tail nm lb
          simp; omega
        · have := takeGo_len ps ns.tail nm (lb ++ [(p, ns.headD default)])
          rw [List.length_append, List.length_singleton] at this; rw [List.length_cons]; omega
theorem applyT_len (rs : List MRule) (p : ByteArray) : (applyT rs p).2.length ≤ 20 := by
  unfold applyT
  split
  · rename_i r hr
    have hm := List.find?_some hr
    unfold matchT at hm
    rw [Bool.and_eq_true] at hm
    obtain ⟨_, _, h1, h2⟩ := good_lens hm.1
    unfold takeT
    have h3 := sortL_getD_len (takeGo r.parts (nodesT p) [] r.extra).2
    have h4 := takeGo_len r.parts (nodesT p) [] r.extra
    simp only
    omega
  · simp
theorem labGo_len : ∀ (ts : List MTag) (l L : List Lab), labGo ts l = .ok L → L.length ≤ l.length + ts.length
  | [], l, L, h => by simp [labGo] at h; subst h; simp
  | t :: ts, l, L, h => by
    rw [labGo] at h
    split at h
    · cases h
    · split at h
      · cases h
      · split at h
        · cases h
        · split at h
          · cases h
          · have := labGo_len ts _ L h
            simp at this ⊢; omega
end
section
def Xb (w : World) (t : Nat) (X : VRow) : Prop := Blk w t 74 #[.int .i64 (X.row.kind : Int), .string X.row.name, .int .i64 (X.row.off : Int), .slice X.tA X.row.tags.length X.tc, .slice X.fA X.row.fields.length X.fc, .string X.row.text, .int .i64 (X.row.pos : Int), .bool X.row.timed, .string X.row.time, .int .i64 (X.row.when_ : Int)]
abbrev XF (w : World) (t : Nat) (X : VRow) : Prop := w.cell? ⟨t, 1, none⟩ = some (.string X.row.name) ∧ w.cell? ⟨t, 2, none⟩ = some (.int .i64 (X.row.off : Int)) ∧ w.cell? ⟨t, 3, none⟩ = some (.slice X.tA X.row.tags.length X.tc) ∧ w.cell? ⟨t, 5, none⟩ = some (.string X.row.text) ∧ w.cell? ⟨t, 6, none⟩ = some (.int .i64 (X.row.pos : Int)) ∧ w.cell? ⟨t, 8, none⟩ = some (.string X.row.time) ∧ w.cell? ⟨t, 9, none⟩ = some (.int .i64 (X.row.when_ : Int))
theorem Xb.fs {w : World} {t : Nat} {X : VRow} (h : Xb w t X) : XF w t X := ⟨(Blk.cell h 1).trans rfl, (Blk.cell h 2).trans rfl, (Blk.cell h 3).trans rfl, (Blk.cell h 5).trans rfl, (Blk.cell h 6).trans rfl, (Blk.cell h 8).trans rfl, (Blk.cell h 9).trans rfl⟩
/-- The rules that the reader holds. -/
structure RulesAt (w : World) (B : Nat) (m : Int) (lA : Option Addr) (xs : List VRule) : Prop where
  rows : IsRows ruleCell 3 w B lA xs.length xs
  each : ∀ x ∈ xs, RuleAt w B x ∧ RuleOk x.rule
  mx : MxAt w m
  pos : 0 < B
  len : xs.length ≤ 2097152
theorem RulesAt.aw {w w' : World} {B r : Nat} {m : Int} {lA : Option Addr} {xs : List VRule} (h : RulesAt w B m lA xs) (k : Aw [r] w w') (hB : B ≤ w.heap.size) (hr : B ≤ r) : RulesAt w' B m lA xs :=
  ⟨h.rows.aw k hB (by simpa using hr), fun x hx => ⟨(h.each x hx).1.aw k hB (by simpa using hr), (h.each x hx).2⟩, h.mx.bel (k.bel_of (B := B) (by simpa using hr) hB) h.pos, h.pos, h.len⟩
structure LSt (W1 w' : World) (r : Nat) (c o l k : Int) (s : ByteArray) (rv fv : Value) (N : Nat) : Prop where
  rd : Dr w' r c o l k s rv fv N
  aw : Aw [r] W1 w'
theorem LSt.call {W1 w w' : World} {r N : Nat} {c o l k : Int} {s : ByteArray} {rv fv : Value} (h : LSt W1 w r c o l k s rv fv N) (a : Aw [] w w') : LSt W1 w' r c o l k s rv fv N := ⟨h.rd.aw a (by simp), h.aw.trans (a.mono (by simp))⟩
theorem apply_ls {W1 w : World} {r N t B : Nat} {c o l k : Int} {s : ByteArray} {fv : Value} {lA : Option Addr} {lc : Nat} {m : Int} {xs : List VRule} {X : VRow} {NM : ByteArray} {L : List Lab} (hru : RulesAt W1 B m lA xs) (hBr : B ≤ r) (hr : r < W1.heap.size) (hnm : X.row.name.size ≤ 1048576) (hE : applyT (xs.map VRule.rule) X.row.name = (NM, L)) (htr : t ∉ [r]) (hX : Xb W1 t X)
    (h : (w.cell? ⟨r, 5, none⟩ = some (.slice lA xs.length lc) ∧ w.cell? ⟨t, 1, none⟩ = some (.string X.row.name)) ∧ LSt W1 w r c o l k s (.slice lA xs.length lc) fv N) :
    Calls Tryz.prog 46 #[.slice lA xs.length lc, .string X.row.name] w fun en w2 => (∃ A n c', en = .returned (.tuple #[.string NM, .slice A n c']) ∧ w2.ownsRow W1.heap.size 118 2 (.slice A n c') n (L.flatMap labCell) ∧ L.length = n) ∧ ((w2.cell? ⟨r, 5, none⟩ = some (.slice lA xs.length lc) ∧ w2.cell? ⟨t, 1, none⟩ = some (.string X.row.name)) ∧ LSt W1 w2 r c o l k s (.slice lA xs.length lc) fv N) := by
  have h1 := hru.aw h.2.aw (by omega) hBr
  have hsz := h.2.aw.size
  have hBw : B ≤ w.heap.size := by omega
  have k := applyo_any lA xs.length lc xs X.row.name m w (h1.rows.more hBw) (fun x hx => ⟨(h1.each x hx).1.more hBw, (h1.each x hx).2⟩) h1.len h1.mx hnm
  rw [hE] at k
  refine k.mono fun en w2 ⟨⟨A, n, c', e1, e2, e3⟩, e4⟩ => ?_
  have h2 := h.2.call (Aw.ofBelow e4)
  exact ⟨⟨A, n, c', e1, own_low e2 hsz, e3⟩, ⟨h2.rd.facts.1.2.2.2.2.2.1, (Xb.fs (Blk.aw hX h2.aw htr)).1⟩, h2⟩
theorem putsP_bool {w0 w : World} {r N : Nat} {c o l k : Int} {s : ByteArray} {rv : Value} {R : Except (Nat × Nat) (List MFam)} {en : Ending} (h : PutsP w0 w r c o l k s rv N R en) : ∃ b, en = .returned (.bool b) := by
  cases R with
  | error x => exact ⟨_, h.1⟩
  | ok gs => exact ⟨_, h.1⟩
set_option maxRecDepth 100000 in
set_option maxHeartbeats 12800000 in
theorem dline_rd (r : Nat) (c o l k : Int) (s : ByteArray) (lA : Option Addr) (lc : Nat) (m : Int) (xs : List VRule) (fv : Value) (fs : List VFam) (N : Nat) (X : VRow) (B : Nat) (w0 w : World)
    (h : DA w0 w r c o l k s (.slice lA xs.length lc) fv fs N) (hs : s.size ≤ 1048576) (kf : FOk fs N) (hru : RulesAt w0 B m lA xs) (hBr : B ≤ r) (ht : IsRows tagCell 4 w0 B X.tA X.row.tags.length X.row.tags) (hn : X.row.tags.length ≤ 10000) (hnm : X.row.name.size ≤ 1048576) (htx : X.row.text.size ≤ 1048576) (htm : X.row.time.size ≤ 1048576) :
    Calls Tryz.prog 25 #[.pointer (some ⟨r, 0, none⟩), .agg #[.int .i64 (X.row.kind : Int), .string X.row.name, .int .i64 (X.row.off : Int), .slice X.tA X.row.tags.length X.tc, .slice X.fA X.row.fields.length X.fc, .string X.row.text, .int .i64 (X.row.pos : Int), .bool X.row.timed, .string X.row.time, .int .i64 (X.row.when_ : Int)]] w fun en w' => PutsP w0 w' r c o l k s (.slice lA xs.length lc) N (rowD (xs.map VRule.rule) (fs.map VFam.fam) N X.row) en := by
  have hrl := h.rl
  have hsz := h.aw.size
  obtain ⟨R, hR⟩ : ∃ R, rowD (xs.map VRule.rule) (fs.map VFam.fam) N X.row = R := ⟨_, rfl⟩
  rw [hR]
  unfold rowD at hR
  have hL20 := applyT_len (xs.map VRule.rule) X.row.name
  obtain ⟨NM, L, hE⟩ : ∃ NM L, applyT (xs.map VRule.rule) X.row.name = (NM, L) := ⟨_, _, rfl⟩
  rw [hE] at hR hL20
  simp only at hR hL20
  have hA1 := (Aw.refl [] w).alloc (.cells #[.int .i64 (X.row.kind : Int), .string X.row.name, .int .i64 (X.row.off : Int), .slice X.tA X.row.tags.length X.tc, .slice X.fA X.row.fields.length X.fc, .string X.row.text, .int .i64 (X.row.pos : Int), .bool X.row.timed, .string X.row.time, .int .i64 (X.row.when_ : Int)] 74)
  have hX : Xb (w.alloc (.cells #[.int .i64 (X.row.kind : Int), .string X.row.name, .int .i64 (X.row.off : Int), .slice X.tA X.row.tags.length X.tc, .slice X.fA X.row.fields.length X.fc, .string X.row.text, .int .i64 (X.row.pos : Int), .bool X.row.timed, .string X.row.time, .int .i64 (X.row.when_ : Int)] 74)) w.heap.size X := Blk.new w _ _
  have hD := h.call hA1
  have hru1 := hru.aw hD.aw (by omega) hBr
  have ht1 := ht.aw hD.aw (by omega) (by simpa using hBr)
  have hz : (w.alloc (.cells #[.int .i64 (X.row.kind : Int), .string X.row.name, .int .i64 (X.row.off : Int), .slice X.tA X.row.tags.length X.tc, .slice X.fA X.row.fields.length X.fc, .string X.row.text, .int .i64 (X.row.pos : Int), .bool X.row.timed, .string X.row.time, .int .i64 (X.row.when_ : Int)] 74)).heap.size = w.heap.size + 1 := by simp
  have htr : w.heap.size ∉ [r] := by simp; omega
  have hrt : r < w.heap.size := by omega
  clear h hru ht hA1
  go_enter Tryz.func25, Tryz.ntmps25
  go_upto_region 1 with (fail)
  generalize w.alloc (.cells #[.int .i64 (X.row.kind : Int), .string X.row.name, .int .i64 (X.row.off : Int), .slice X.tA X.row.tags.length X.tc, .slice X.fA X.row.fields.length X.fc, .string X.row.text, .int .i64 (X.row.pos : Int), .bool X.row.timed, .string X.row.time, .int .i64 (X.row.when_ : Int)] 74) = W1 at *
  generalize w.heap.size = t at *
  have kF12 : ∀ (at_ : Nat) W, Dr W r c o l k s (.slice lA xs.length lc) fv N → Calls Tryz.prog 49 #[.pointer (some ⟨r, 0, none⟩), .int .i64 12, .int .i64 (at_ : Int)] W fun e w' => e = .returned (.bool false) ∧ Drf w' r 12 at_ s (.slice lA xs.length lc) fv N ∧ Aw [r] W w' := fun at_ W h => dfails_any r c o l k s _ fv N 12 at_ W h hs
  have kF14 : ∀ (at_ : Nat) W, Dr W r c o l k s (.slice lA xs.length lc) fv N → Calls Tryz.prog 49 #[.pointer (some ⟨r, 0, none⟩), .int .i64 14, .int .i64 (at_ : Int)] W fun e w' => e = .returned (.bool false) ∧ Drf w' r 14 at_ s (.slice lA xs.length lc) fv N ∧ Aw [r] W w' := fun at_ W h => dfails_any r c o l k s _ fv N 14 at_ W h hs
  have hS0 : (W1.drew.cell? ⟨r, 5, none⟩ = some (.slice lA xs.length lc) ∧ W1.drew.cell? ⟨t, 1, none⟩ = some (.string X.row.name)) ∧ LSt W1 W1.drew r c o l k s (.slice lA xs.length lc) fv N := ⟨⟨hD.rd.facts.1.2.2.2.2.2.1, hX.fs.1⟩, ⟨hD.rd, (Aw.refl _ _).drew⟩⟩
  go_region_held3 (fun w' => (w'.cell? ⟨r, 5, none⟩ = some (.slice lA xs.length lc) ∧ w'.cell? ⟨t, 1, none⟩ = some (.string X.row.name)) ∧ LSt W1 w' r c o l k s (.slice lA xs.length lc) fv N) (first | (with_reducible assumption) | (with_reducible exact hS0)) (first
    | (go_at_call 46; (with_reducible refine (apply_ls hru1 hBr (by omega) hnm hE htr hX (by with_reducible assumption)).mono ?_); rintro en w5 ⟨⟨A0, n0, c0, rfl, hown, hn0⟩, hS5⟩))
  rename_i hHeld
  obtain ⟨_, hY⟩ := hHeld
  subst hn0
  have hY5 := hY.aw
  obtain ⟨x1, x2, x3, x5, x6, x8, x9⟩ := Xb.fs (Blk.aw hX hY5 htr)
  clear hS0
  by_cases h60 : 60 < NM.size
  · have d60 : decide ((60 : Int) < (NM.size : Int)) = true := decide_eq_true (by omega)
    have d60n : decide (60 < NM.size) = true := decide_eq_true h60
    rw [d60n, Bool.true_or, if_pos rfl] at hR
    subst hR
    go_wp2_with (go_at_call 49; (with_reducible refine (kF14 _ _ hY.rd).mono ?_); rintro en w9 ⟨rfl, h9, hA9⟩)
    go_ret
    exact ⟨rfl, ⟨_, _, h9⟩, hD.aw.trans (hY5.trans hA9)⟩
  have d60 : decide ((60 : Int) < (NM.size : Int)) = false := decide_eq_false (by omega)
  have d60n : decide (60 < NM.size) = false := decide_eq_false h60
  rw [d60n, Bool.false_or] at hR
  clear h60
  have kC := conL_any 0 A0 L.length c0 w5.heap.size L longL w5 (own_labR hown rfl) (Nat.le_refl _) (by omega) (fun x _ W _ => long_any x W)
  cases hlg : L.any longL
  case true =>
    rw [hlg, if_pos rfl] at hR
    rw [hlg] at kC
    subst hR
    go_wp2_with (first
      | (go_at_call 48; (with_reducible refine kC.mono ?_); rintro en w6 ⟨rfl, hA6⟩; have hY6 := hY.call hA6; obtain ⟨y1, y2, y3, y5, y6, y8, y9⟩ := Xb.fs (Blk.aw hX hY6.aw htr))
      | (go_at_call 49; (with_reducible refine (kF14 _ _ hY6.rd).mono ?_); rintro en w9 ⟨rfl, h9, hA9⟩))
    go_ret
    exact ⟨rfl, ⟨_, _, h9⟩, hD.aw.trans (hY6.aw.trans hA9)⟩
  rw [hlg, if_neg (by decide)] at hR
  rw [hlg] at kC
  have kL := fun W (hd : LSt W1 W r c o l k s (.slice lA xs.length lc) fv N) (ho : W.ownsRow W1.heap.size 118 2 (.slice A0 L.length c0) L.length (L.flatMap labCell)) => dlabels_any r N c o l k s (.slice lA xs.length lc) fv A0 c0 L X.tA X.row.tags.length X.tc B X.row.tags W1 W hd.rd hd.aw (by omega) hs ho (by omega) ht1 hBr (by omega)
  have hlen := labGo_len X.row.tags L
  generalize labGo X.row.tags L = LR at kL hR hlen
  cases LR with
  | error y =>
    simp only [LabsP] at kL
    simp only at hR
    subst hR
    clear hlen hlg
    go_wp2_with (first
      | (go_at_call 48; (with_reducible refine kC.mono ?_); rintro en w6 ⟨rfl, hA6⟩; have hY6 := hY.call hA6; have hown6 := own_aw hown hA6 (by simp); obtain ⟨y1, y2, y3, y5, y6, y8, y9⟩ := Xb.fs (Blk.aw hX hY6.aw htr))
      | (go_at_call 50; (with_reducible refine (kL _ hY6 hown6).mono ?_); rintro en w9 ⟨rfl, h9, hA9⟩))
    go_ret
    exact ⟨rfl, ⟨_, _, h9⟩, hD.aw.trans hA9⟩
  | ok M =>
    have hM := hlen M rfl
    simp only [LabsP] at kL
    simp only at hR
    clear hlen hlg
    have hsl := sortL_getD_len M
    generalize (sortL M).getD [] = SL at *
    have kP := fun W => parse_any X.row.text W htx
    have kI := fun W => int_any X.row.time W htm
    have hpb := parseD_bdR X.row.text.data.toList
    have hib := intD_bd X.row.time.data.toList
    generalize parseD X.row.text.data.toList = PD at *
    generalize intD X.row.time.data.toList = ID at *
    obtain ⟨⟨dM, dS⟩, code, kk⟩ := PD
    obtain ⟨nI, eI⟩ := ID
    simp only at hR hpb hib
    have kM := fun W => ms_any nI W (by omega) (by omega)
    unfold ParseE at kP
    unfold IntE at kI
    unfold MsE at kM
    simp only at kP kI
    go_upto_region 9 with (first
      | (go_at_call 48; (with_reducible refine kC.mono ?_); rintro en w6 ⟨rfl, hA6⟩; have hY6 := hY.call hA6; have hown6 := own_aw hown hA6 (by simp); obtain ⟨y1, y2, y3, y5, y6, y8, y9⟩ := Xb.fs (Blk.aw hX hY6.aw htr))
      | (go_at_call 50; (with_reducible refine (kL _ hY6 hown6).mono ?_); rintro en w7 ⟨⟨A7, n7, c7, rfl, hown7, hn7, _⟩, h7, hA7⟩; have hY7 : LSt W1 w7 r c o l k s (.slice lA xs.length lc) fv N := ⟨h7, hA7⟩; obtain ⟨z1, z2, z3, z5, z6, z8, z9⟩ := Xb.fs (Blk.aw hX hA7 htr))
      | (go_at_call 51; (with_reducible refine (kP _).mono ?_); rintro en w8 ⟨rfl, hA8⟩; have hY8 := hY7.call hA8; have hown8 := own_aw hown7 hA8 (by simp)))
    have hDec := Blk.new w8 68 #[.int .i64 dM, .int .i64 (dS : Int)]
    have hY9 := hY8.call ((Aw.refl [] w8).alloc (.cells #[.int .i64 dM, .int .i64 (dS : Int)] 68))
    have hown9 := hown8.alloc (.cells #[.int .i64 dM, .int .i64 (dS : Int)] 68)
    clear kP kC kL hY hY5 hY6 hY7 hY8 hown hown6 hown7 hown8 x1 x2 x3 x5 x6 x8 x9 y1 y2 y3 y5 y6 y8 y9 z1 z2 z3 z5 z6 z8 z9
    generalize w8.alloc (.cells #[.int .i64 dM, .int .i64 (dS : Int)] 68) = w9 at *
    generalize w8.heap.size = db at *
    obtain ⟨u1, u2, u3, u5, u6, u8, u9⟩ := Xb.fs (Blk.aw hX hY9.aw htr)
    have q0 := (Blk.cell hDec 0).trans rfl
    have q1 := (Blk.cell hDec 1).trans rfl
    subst hn7
    by_cases hc : code ≠ 0
    · rw [if_pos hc] at hR
      have dc : ((code : Int) != 0) = true := by simp; omega
      subst hR
      clear hc
      go_wp2_with (go_at_call 49; (with_reducible refine (kF12 _ _ hY9.rd).mono ?_); rintro en w10 ⟨rfl, h10, hA10⟩)
      go_ret
      exact ⟨rfl, ⟨_, _, h10⟩, hD.aw.trans (hY9.aw.trans hA10)⟩
    rw [if_neg hc] at hR
    have dc : ((code : Int) != 0) = false := by simp; omega
    clear hc
    by_cases he : eI ≠ 0
    · rw [if_pos he] at hR
      have de : ((eI : Int) != 0) = true := by simp; omega
      subst hR
      clear he
      generalize (msD nI).getD 0 = g1 at *
      generalize (msD nI).isSome = g2 at *
      go_wp2_with (first
        | (go_at_call 52; (with_reducible refine (kI _).mono ?_); rintro en w10 ⟨⟨ki, rfl⟩, rfl⟩)
        | (go_at_call 53; (with_reducible refine (kM _).mono ?_); rintro en w11 ⟨rfl, hb11⟩; have hY11 := hY9.call (Aw.ofBelow hb11); obtain ⟨v1, v2, v3, v5, v6, v8, v9⟩ := Xb.fs (Blk.aw hX hY11.aw htr))
        | (go_at_call 49; (with_reducible refine (kF12 _ _ hY11.rd).mono ?_); rintro en w12 ⟨rfl, h12, hA12⟩))
      go_ret
      exact ⟨rfl, ⟨_, _, h12⟩, hD.aw.trans (hY11.aw.trans hA12)⟩
    rw [if_neg he] at hR
    have de : ((eI : Int) != 0) = false := by simp; omega
    clear he
    cases hms : msD nI with
    | none =>
      rw [hms] at hR kM
      simp only at hR
      simp only [Option.getD_none, Option.isSome_none] at kM
      subst hR
      clear hms
      go_wp2_with (first
        | (go_at_call 52; (with_reducible refine (kI _).mono ?_); rintro en w10 ⟨⟨ki, rfl⟩, rfl⟩)
        | (go_at_call 53; (with_reducible refine (kM _).mono ?_); rintro en w11 ⟨rfl, hb11⟩; have hY11 := hY9.call (Aw.ofBelow hb11); obtain ⟨v1, v2, v3, v5, v6, v8, v9⟩ := Xb.fs (Blk.aw hX hY11.aw htr))
        | (go_at_call 49; (with_reducible refine (kF12 _ _ hY11.rd).mono ?_); rintro en w12 ⟨rfl, h12, hA12⟩))
      go_ret
      exact ⟨rfl, ⟨_, _, h12⟩, hD.aw.trans (hY11.aw.trans hA12)⟩
    | some ms =>
      rw [hms] at hR kM
      simp only at hR
      simp only [Option.getD_some, Option.isSome_some] at kM
      clear hms
      have kU : ∀ W, LSt W1 W r c o l k s (.slice lA xs.length lc) fv N → W.ownsRow W1.heap.size 118 2 (.slice A7 SL.length c7) SL.length (SL.flatMap labCell) → Calls Tryz.prog 54 #[.pointer (some ⟨r, 0, none⟩), .string NM, .agg #[.slice A7 SL.length c7, .int .i64 0, .bool false, .int .i64 0, .int .i64 0, .int .i64 dM, .int .i64 (dS : Int), .bool true, .int .i64 ms], .int .i64 (X.row.off : Int)] W fun en w' => PutsP w0 w' r c o l k s (.slice lA xs.length lc) N R en := fun W hd ho => by
        have hDA : DA w0 W r c o l k s (.slice lA xs.length lc) fv fs N := ⟨hd.rd, hD.fams.aw hd.aw (fun i hi => by
          rw [List.mem_singleton] at hi; subst hi
          exact .inr ⟨_, _, hD.rd, by decide, by decide, by decide⟩), hD.aw.trans hd.aw, hrl⟩
        have := puts_any r c o l k s (.slice lA xs.length lc) fv fs N NM ⟨pntD SL dM dS ms, A7, c7⟩ X.row.off w0 W hDA hs (own_low ho hD.aw.size) ⟨⟨by show (-9223372036854775808 : Int) ≤ 0; decide, by show (0 : Int) ≤ 9223372036854775807; decide⟩, by show SL.length ≤ 1048576; omega⟩ kf
        rw [← hR]
        exact this
      clear hR
      go_wp2_with (first
        | (go_at_call 52; (with_reducible refine (kI _).mono ?_); rintro en w10 ⟨⟨ki, rfl⟩, rfl⟩)
        | (go_at_call 53; (with_reducible refine (kM _).mono ?_); rintro en w11 ⟨rfl, hb11⟩; have hY11 := hY9.call (Aw.ofBelow hb11); have hown11 := own_aw hown9 (Aw.ofBelow (S := []) hb11) (by simp); have hD11 := Blk.aw hDec (Aw.ofBelow (S := []) hb11) (by simp); have q2 := (Blk.cell hD11 0).trans rfl; have q3 := (Blk.cell hD11 1).trans rfl; obtain ⟨v1, v2, v3, v5, v6, v8, v9⟩ := Xb.fs (Blk.aw hX hY11.aw htr))
        | (go_at_call 54; (with_reducible refine (kU _ hY11 hown11).mono ?_); rintro en w12 hU; obtain ⟨bb, rfl⟩ := putsP_bool hU))
      go_ret
      exact hU
end
section
theorem len64_one (n : Nat) (hn : n ≤ 1) (w : World) : Calls Tryz.prog 118 #[.int .u64 (n : Int)] w fun e w' => (∃ k : Int, e = .returned (.int .i64 k)) ∧ w' = w := by
  obtain rfl | rfl : n = 0 ∨ n = 1 := by omega
  · go_enter Tryz.func118, Tryz.ntmps118
    go_wp2_with fail
    go_ret
    exact ⟨⟨_, rfl⟩, rfl⟩
  · go_enter Tryz.func118, Tryz.ntmps118
    go_wp2_with fail
    go_ret
    exact ⟨⟨_, rfl⟩, rfl⟩
theorem len_one (n : Nat) (hn : n ≤ 1) (w : World) : Calls Tryz.prog 60 #[.int .u64 (n : Int)] w fun e w' => (∃ k : Int, e = .returned (.int .i64 k)) ∧ w' = w := by
  have k := len64_one n hn w
  go_enter Tryz.func60, Tryz.ntmps60
  go_wp2_with (go_at_call 118; (with_reducible refine k.mono ?_); rintro e w1 ⟨⟨kk, rfl⟩, hw1⟩; rw [hw1]; clear hw1 w1)
  go_ret
  exact ⟨⟨_, rfl⟩, rfl⟩
theorem finsOne (v f : Value) (n : Nat) (hn : n ≤ 1) (w : World) : Calls Tryz.prog 109 #[v, .int .i64 0, .int .i64 (n : Int), f] w fun e w' => e = .returned (.tuple #[]) ∧ w' = w := by
  have d : decide ((1 : Int) < (n : Int)) = false := decide_eq_false (by omega)
  go_enter Tryz.func109, Tryz.ntmps109
  go_wp2_with fail
  refine wp_loop_rounds 1 ?_
  repeat (rw [rounds_succ]; go_wp2_with fail)
  go_end0
  exact ⟨rfl, rfl⟩
theorem pinsOne (v f : Value) (n : Nat) (hn : n ≤ 1) (w : World) : Calls Tryz.prog 163 #[v, .int .i64 0, .int .i64 (n : Int), f] w fun e w' => e = .returned (.tuple #[]) ∧ w' = w := by
  have d : decide ((1 : Int) < (n : Int)) = false := decide_eq_false (by omega)
  go_enter Tryz.func163, Tryz.ntmps163
  go_wp2_with fail
  refine wp_loop_rounds 1 ?_
  repeat (rw [rounds_succ]; go_wp2_with fail)
  go_end0
  exact ⟨rfl, rfl⟩
theorem pdqOne (v f : Value) (k : Int) (n : Nat) (hn : n ≤ 1) (w : World) : Calls Tryz.prog 59 #[v, .int .i64 0, .int .i64 (n : Int), .int .i64 k, f] w fun e w' => e = .returned (.tuple #[]) ∧ w' = w := by
  have kI := finsOne v f n hn w
  have wn : IntKind.i64.wrap ((n : Int) - 0) = (n : Int) := by rw [Int.sub_zero]; exact IntWalk.i64_in _ (by omega)
  have d : decide ((n : Int) ≤ 12) = true := decide_eq_true (by omega)
  go_enter Tryz.func59, Tryz.ntmps59
  go_wp2_with fail
  refine wp_loop_rounds 1 ?_
  repeat (rw [rounds_succ]; go_wp2_with (go_at_call 109; (with_reducible refine kI.mono ?_); rintro e w1 ⟨rfl, hw1⟩; rw [hw1]; clear hw1 w1))
  first
    | go_end0
    | refine bodyPost_ret (results_none rfl _ _ _) rfl ?_
  exact ⟨rfl, rfl⟩
theorem fsortOne (A : Option Addr) (c : Nat) (f : Value) (n : Nat) (hn : n ≤ 1) (w : World) : Calls Tryz.prog 27 #[.slice A n c, f] w fun e w' => e = .returned (.tuple #[]) ∧ w' = w := by
  have kL := len_one n hn w
  have kP := fun k => pdqOne (.slice A n c) f k n hn w
  have wn : IntKind.u64.wrap (n : Int) = (n : Int) := by
    obtain rfl | rfl : n = 0 ∨ n = 1 := by omega
    · rfl
    · rfl
  go_enter Tryz.func27, Tryz.ntmps27
  go_wp2_with (first
    | (go_at_call 60; (with_reducible refine kL.mono ?_); rintro e w1 ⟨⟨k, rfl⟩, hw1⟩; rw [hw1]; clear hw1 w1)
    | (go_at_call 59; (with_reducible refine (kP _).mono ?_); rintro e w1 ⟨rfl, hw1⟩; rw [hw1]; clear hw1 w1))
  first
    | go_end0
    | refine bodyPost_ret (results_none rfl _ _ _) rfl ?_
  exact ⟨rfl, rfl⟩
theorem stableOne (v f : Value) (n : Nat) (hn : n ≤ 1) (w : World) : Calls Tryz.prog 102 #[v, .int .i64 (n : Int), f] w fun e w' => e = .returned (.tuple #[]) ∧ w' = w := by
  have kI := pinsOne v f n hn w
  have d : decide ((20 : Int) ≤ (n : Int)) = false := decide_eq_false (by omega)
  have d2 : decide ((20 : Int) < (n : Int)) = false := decide_eq_false (by omega)
  go_enter Tryz.func102, Tryz.ntmps102
  go_wp2_with fail
  refine wp_loop_rounds 1 ?_
  repeat (rw [rounds_succ]; go_wp2_with (go_at_call 163; (with_reducible refine kI.mono ?_); rintro e w1 ⟨rfl, hw1⟩; rw [hw1]; clear hw1 w1))
  refine wp_loop_rounds 1 ?_
  repeat (rw [rounds_succ]; go_wp2_with fail)
  first
    | go_end0
    | refine bodyPost_ret (results_none rfl _ _ _) rfl ?_
  exact ⟨rfl, rfl⟩
theorem psortOne (A : Option Addr) (c : Nat) (f : Value) (n : Nat) (hn : n ≤ 1) (w : World) : Calls Tryz.prog 56 #[.slice A n c, f] w fun e w' => e = .returned (.tuple #[]) ∧ w' = w := by
  have kP := stableOne (.slice A n c) f n hn w
  go_enter Tryz.func56, Tryz.ntmps56
  go_wp2_with (go_at_call 102; (with_reducible refine kP.mono ?_); rintro e w1 ⟨rfl, hw1⟩; rw [hw1]; clear hw1 w1)
  first
    | go_end0
    | refine bodyPost_ret (results_none rfl _ _ _) rfl ?_
  exact ⟨rfl, rfl⟩
theorem risesOne (A : Option Addr) (c n : Nat) (hn : n ≤ 1) (w : World) : Calls Tryz.prog 58 #[.slice A n c] w fun e w' => e = .returned (.bool true) ∧ w' = w := by
  have d : decide ((1 : Int) < (n : Int)) = false := decide_eq_false (by omega)
  go_enter Tryz.func58, Tryz.ntmps58
  go_wp2_with fail
  refine wp_loop_rounds 1 ?_
  repeat (rw [rounds_succ]; go_wp2_with fail)
  go_ret
  exact ⟨rfl, rfl⟩
end
section
set_option maxHeartbeats 3200000 in
theorem ownPoint_any (p : VPnt) (w : World) (hp : IsRows labCell 2 w w.heap.size p.A p.pt.labels.length p.pt.labels) (hn : p.pt.labels.length ≤ 1048576) :
    Calls Tryz.prog 162 #[.agg #[.slice p.A p.pt.labels.length p.c, .int .i64 (p.pt.role : Int), .bool p.pt.inf, .int .i64 p.pt.bM, .int .i64 (p.pt.bS : Int), .int .i64 p.pt.vM, .int .i64 (p.pt.vS : Int), .bool p.pt.timed, .int .i64 p.pt.time]] w fun e w' => (∃ A' c', e = .returned (.agg #[.slice A' p.pt.labels.length c', .int .i64 (p.pt.role : Int), .bool p.pt.inf, .int .i64 p.pt.bM, .int .i64 (p.pt.bS : Int), .int .i64 p.pt.vM, .int .i64 (p.pt.vS : Int), .bool p.pt.timed, .int .i64 p.pt.time]) ∧ w'.ownsRow w.heap.size 118 2 (.slice A' p.pt.labels.length c') p.pt.labels.length (p.pt.labels.flatMap labCell)) ∧ Below w.heap.size w w' := by
  have hz : (w.alloc (.cells #[.slice p.A p.pt.labels.length p.c, .int .i64 (p.pt.role : Int), .bool p.pt.inf, .int .i64 p.pt.bM, .int .i64 (p.pt.bS : Int), .int .i64 p.pt.vM, .int .i64 (p.pt.vS : Int), .bool p.pt.timed, .int .i64 p.pt.time] 70)).heap.size = w.heap.size + 1 := by simp
  have hA := ((Aw.refl [] w).alloc (.cells #[.slice p.A p.pt.labels.length p.c, .int .i64 (p.pt.role : Int), .bool p.pt.inf, .int .i64 p.pt.bM, .int .i64 (p.pt.bS : Int), .int .i64 p.pt.vM, .int .i64 (p.pt.vS : Int), .bool p.pt.timed, .int .i64 p.pt.time] 70)).alloc (.cells #[.slice none 0 0, .int .i64 0, .bool false, .int .i64 0, .int .i64 0, .int .i64 0, .int .i64 0, .bool false, .int .i64 0] 70)
  have hb1 := Blk.alloc (Blk.new w 70 #[.slice p.A p.pt.labels.length p.c, .int .i64 (p.pt.role : Int), .bool p.pt.inf, .int .i64 p.pt.bM, .int .i64 (p.pt.bS : Int), .int .i64 p.pt.vM, .int .i64 (p.pt.vS : Int), .bool p.pt.timed, .int .i64 p.pt.time]) (.cells #[.slice none 0 0, .int .i64 0, .bool false, .int .i64 0, .int .i64 0, .int .i64 0, .int .i64 0, .bool false, .int .i64 0] 70)
  have hb2 := Blk.new (w.alloc (.cells #[.slice p.A p.pt.labels.length p.c, .int .i64 (p.pt.role : Int), .bool p.pt.inf, .int .i64 p.pt.bM, .int .i64 (p.pt.bS : Int), .int .i64 p.pt.vM, .int .i64 (p.pt.vS : Int), .bool p.pt.timed, .int .i64 p.pt.time] 70)) 70 #[.slice none 0 0, .int .i64 0, .bool false, .int .i64 0, .int .i64 0, .int .i64 0, .int .i64 0, .bool false, .int .i64 0]
  rw [hz] at hb2
  have kC := labClone_any p.A p.pt.labels.length p.c p.pt.labels _ ((hp.aw hA (Nat.le_refl _) (by simp)).more hA.size) hn
  have hsz := hA.size
  clear hz hp
  go_enter Tryz.func162, Tryz.ntmps162
  go_upto_region 1 with (fail)
  generalize (w.alloc (.cells #[.slice p.A p.pt.labels.length p.c, .int .i64 (p.pt.role : Int), .bool p.pt.inf, .int .i64 p.pt.bM, .int .i64 (p.pt.bS : Int), .int .i64 p.pt.vM, .int .i64 (p.pt.vS : Int), .bool p.pt.timed, .int .i64 p.pt.time] 70)).alloc (.cells #[.slice none 0 0, .int .i64 0, .bool false, .int .i64 0, .int .i64 0, .int .i64 0, .int .i64 0, .bool false, .int .i64 0] 70) = W at *
  have l1 := Blk.lt hb1
  have l2 := Blk.lt hb2
  generalize hb : w.heap.size = b at *
  have c0 := (Blk.cell hb1 0).trans rfl
  go_upto_region 2 with (go_at_call 149; (with_reducible refine kC.mono ?_); rintro e w1 ⟨⟨v, rfl, hown⟩, hbw⟩; obtain ⟨A', c', rfl⟩ := own_form hown; have hb11 := Blk.below hb1 hbw (by omega); have hb21 := Blk.below hb2 hbw (by omega); have f0 := Blk.frozen hb11 0; have a0 := (Blk.cell hb11 0).trans rfl)
  have hb12 := Blk.set_ hb11 0 (.slice A' p.pt.labels.length c')
  have hb22 := Blk.far hb21 (p := ⟨b, 0, none⟩) (by simp) (.slice A' p.pt.labels.length c')
  have hown2 := own_aw hown ((Aw.refl [b] w1).setCell (p := ⟨b, 0, none⟩) (.inl (by simp)) (.slice A' p.pt.labels.length c')) (fun g hg hm => by have := (hown.lt _ hg).1; simp at hm; omega)
  have hbl := bl_set (hA.none_bel.trans (hbw.mono (by omega))) (p := ⟨b, 0, none⟩) (by simp; omega) (.slice A' p.pt.labels.length c')
  generalize w1.setCell ⟨b, 0, none⟩ (.slice A' p.pt.labels.length c') = w2 at *
  have q0 := (Blk.cell hb12 0).trans rfl; have q1 := (Blk.cell hb12 1).trans rfl; have q2 := (Blk.cell hb12 2).trans rfl; have q3 := (Blk.cell hb12 3).trans rfl; have q4 := (Blk.cell hb12 4).trans rfl; have q5 := (Blk.cell hb12 5).trans rfl; have q6 := (Blk.cell hb12 6).trans rfl; have q7 := (Blk.cell hb12 7).trans rfl; have q8 := (Blk.cell hb12 8).trans rfl
  have d0 := (Blk.cell hb22 0).trans rfl; have d1 := (Blk.cell hb22 1).trans rfl; have d2 := (Blk.cell hb22 2).trans rfl; have d3 := (Blk.cell hb22 3).trans rfl; have d4 := (Blk.cell hb22 4).trans rfl; have d5 := (Blk.cell hb22 5).trans rfl; have d6 := (Blk.cell hb22 6).trans rfl; have d7 := (Blk.cell hb22 7).trans rfl; have d8 := (Blk.cell hb22 8).trans rfl
  have g0 := Blk.frozen hb22 0; have g1 := Blk.frozen hb22 1; have g2 := Blk.frozen hb22 2; have g3 := Blk.frozen hb22 3; have g4 := Blk.frozen hb22 4; have g5 := Blk.frozen hb22 5; have g6 := Blk.frozen hb22 6; have g7 := Blk.frozen hb22 7; have g8 := Blk.frozen hb22 8
  go_wp2_with fail
  have hA9 := ((((((((((Aw.refl [b + 1] w2).setCell (p := ⟨b + 1, 0, none⟩) (.inl (by simp)) (.slice A' p.pt.labels.length c')).setCell (p := ⟨b + 1, 1, none⟩) (.inl (by simp)) (.int .i64 (p.pt.role : Int))).setCell (p := ⟨b + 1, 2, none⟩) (.inl (by simp)) (.bool p.pt.inf)).setCell (p := ⟨b + 1, 3, none⟩) (.inl (by simp)) (.int .i64 p.pt.bM)).setCell (p := ⟨b + 1, 4, none⟩) (.inl (by simp)) (.int .i64 (p.pt.bS : Int))).setCell (p := ⟨b + 1, 5, none⟩) (.inl (by simp)) (.int .i64 p.pt.vM)).setCell (p := ⟨b + 1, 6, none⟩) (.inl (by simp)) (.int .i64 (p.pt.vS : Int))).setCell (p := ⟨b + 1, 7, none⟩) (.inl (by simp)) (.bool p.pt.timed)).setCell (p := ⟨b + 1, 8, none⟩) (.inl (by simp)) (.int .i64 p.pt.time))
  refine bodyPost_ret (v := .agg #[.slice A' p.pt.labels.length c', .int .i64 (p.pt.role : Int), .bool p.pt.inf, .int .i64 p.pt.bM, .int .i64 (p.pt.bS : Int), .int .i64 p.pt.vM, .int .i64 (p.pt.vS : Int), .bool p.pt.timed, .int .i64 p.pt.time]) (by simp [results, Tryz.results162, go_sem, d0, d1, d2, d3, d4, d5, d6, d7, d8]) rfl ⟨⟨A', c', rfl, own_low (own_aw hown2 hA9 (fun g hg hm => by have := (hown2.lt _ hg).1; simp at hm; omega)) (by omega)⟩, ?_⟩
  exact hbl.trans (hA9.bel_of (fun k hk => by simp at hk; omega) (by have := hbl.size; omega))
structure OwnPts (B : Nat) (w : World) (v : Value) (ps : List VPnt) : Prop where
  own : w.ownsRow B 70 9 v ps.length (ps.flatMap pntCell)
  lab : ∀ x ∈ ps, w.ownsRow B 118 2 x.lv x.pt.labels.length (x.pt.labels.flatMap labCell)
theorem OwnPts.bel {B : Nat} {w w' : World} {v : Value} {ps : List VPnt} (h : OwnPts B w v ps) (k : Below w.heap.size w w') : OwnPts B w' v ps := ⟨own_bel h.own k, fun x hx => own_bel (h.lab x hx) k⟩
theorem OwnPts.grow {B : Nat} {w w' : World} {v v' : Value} {ps : List VPnt} {q : VPnt} (h : OwnPts B w v ps) (hq : w.ownsRow B 118 2 q.lv q.pt.labels.length (q.pt.labels.flatMap labCell)) (hg : w.grownBy w' v.ownBlock) (ho : w'.ownsRow B 70 9 v' (ps.length + 1) (ps.flatMap pntCell ++ pntCell q)) : OwnPts B w' v' (ps ++ [q]) := by
  have k : ∀ x : VPnt, w.ownsRow B 118 2 x.lv x.pt.labels.length (x.pt.labels.flatMap labCell) → w'.ownsRow B 118 2 x.lv x.pt.labels.length (x.pt.labels.flatMap labCell) := fun x hx => hx.kept hg (by
    cases hb : Value.ownBlock _ with
    | none => exact .inl rfl
    | some b => exact .inr (fun e => own_own_ne hx h.own (by decide) b hb e.symm))
  exact ⟨by simpa using ho, fun x hx => by
    rcases List.mem_append.1 hx with hx | hx
    · exact k x (h.lab x hx)
    · rw [List.mem_singleton] at hx; subst hx; exact k x hq⟩
set_option maxRecDepth 100000 in
set_option maxHeartbeats 3200000 in
theorem ownPoints_any (A : Option Addr) (n cap : Nat) (ps : List VPnt) (w : World) (hl : IsRows pntCell 9 w w.heap.size A n ps) (hlab : ∀ x ∈ ps, IsRows labCell 2 w w.heap.size x.A x.pt.labels.length x.pt.labels ∧ x.pt.labels.length ≤ 1048576) (hn : n ≤ 1048576) :
    Calls Tryz.prog 101 #[.slice A n cap] w fun e w' => (∃ v qs, e = .returned v ∧ qs.map VPnt.pt = ps.map VPnt.pt ∧ OwnPts w.heap.size w' v qs) ∧ Below w.heap.size w w' := by
  obtain ⟨x0, hx0, hxz0, hxz1, hxz2⟩ := info_parts Tryz.infoPnt
  have hu : Tryz.prog.underlying 64 = some (.slice 70) := by kernel_rfl
  have hll := hl.1
  have HL := Lib.hid hlab
  clear hlab
  go_enter Tryz.func101, Tryz.ntmps101
  go_wp2_with fail
  go_loopw [3, 8] (fun ov i wr => Below w.heap.size w wr ∧ ∃ (k : Nat) (qs : List VPnt), k ≤ n ∧ i = .int .i64 k ∧ qs.length = k ∧ Hid (qs.map VPnt.pt = (ps.take k).map VPnt.pt) ∧ OwnPts w.heap.size wr ov qs) (fun _ i _ => n - (intOf i).toNat)
  case atStart => exact ⟨Below.refl _ _, 0, [], by omega, rfl, rfl, Lib.hid rfl, World.ownsRow_nil _ _ _ _, by simp⟩
  case round =>
    obtain ⟨hbw, k, qs, hk, rfl, hql, HQ, hO⟩ := hrel
    by_cases hlt : k < n
    · have hd : decide ((k : Int) < n) = true := decide_eq_true (by omega)
      have hk0 : (0 : Int) ≤ k := by omega
      have hk1 : (k : Int) < n := by omega
      obtain ⟨b, off, rfl, hb, hcs⟩ := (hl.below hbw).2 (by omega)
      obtain ⟨X, hX⟩ : ∃ X, ps[k]? = some X := ⟨_, List.getElem?_eq_getElem (by omega)⟩
      have q0 : wr.cell? ⟨b, off + k * 9, none⟩ = some (.slice X.A X.pt.labels.length X.c) := hcs k X 0 _ hX rfl
      have q1 : wr.cell? ⟨b, off + k * 9 + 1, none⟩ = some (.int .i64 (X.pt.role : Int)) := hcs k X 1 _ hX rfl
      have q2 : wr.cell? ⟨b, off + k * 9 + 2, none⟩ = some (.bool X.pt.inf) := hcs k X 2 _ hX rfl
      have q3 : wr.cell? ⟨b, off + k * 9 + 3, none⟩ = some (.int .i64 X.pt.bM) := hcs k X 3 _ hX rfl
      have q4 : wr.cell? ⟨b, off + k * 9 + 4, none⟩ = some (.int .i64 (X.pt.bS : Int)) := hcs k X 4 _ hX rfl
      have q5 : wr.cell? ⟨b, off + k * 9 + 5, none⟩ = some (.int .i64 X.pt.vM) := hcs k X 5 _ hX rfl
      have q6 : wr.cell? ⟨b, off + k * 9 + 6, none⟩ = some (.int .i64 (X.pt.vS : Int)) := hcs k X 6 _ hX rfl
      have q7 : wr.cell? ⟨b, off + k * 9 + 7, none⟩ = some (.bool X.pt.timed) := hcs k X 7 _ hX rfl
      have q8 : wr.cell? ⟨b, off + k * 9 + 8, none⟩ = some (.int .i64 X.pt.time) := hcs k X 8 _ hX rfl
      obtain ⟨hxl, hxn⟩ := HL.out X (List.mem_of_getElem? hX)
      have hA1 := (Aw.refl [] wr).alloc (.cells #[.slice X.A X.pt.labels.length X.c, .int .i64 (X.pt.role : Int), .bool X.pt.inf, .int .i64 X.pt.bM, .int .i64 (X.pt.bS : Int), .int .i64 X.pt.vM, .int .i64 (X.pt.vS : Int), .bool X.pt.timed, .int .i64 X.pt.time] 70)
      have hsw := hbw.size
      have kP := ownPoint_any X _ ((((hxl.below hbw).more hsw).aw hA1 (Nat.le_refl _) (by simp)).more hA1.size) hxn
      have hO1 := hO.bel hA1.none_bel
      have htk : ps.take (k + 1) = ps.take k ++ [X] := by rw [List.take_add_one, hX]; rfl
      have HN : ∀ q : VPnt, q.pt = X.pt → Hid ((qs ++ [q]).map VPnt.pt = (ps.take (k + 1)).map VPnt.pt) := fun q hq => Lib.hid (by rw [htk, List.map_append, List.map_append, HQ.out]; simp [hq])
      clear hcs hX HQ htk hxl
      go_wp2_with (first
        | (go_at_call 162; (with_reducible refine kP.mono ?_); rintro e w2 ⟨⟨A', c', rfl, hown2⟩, hb2⟩; have hs2 := hb2.size; have hO2 := hO1.bel hb2; have hsa := hA1.size)
        | (at_builtin; (refine wpList_append_lies _ (by rfl) _ _ _ (by rfl) w.heap.size 70 x0 _ 9 88 hu hx0 hxz0 hxz1 hxz2 rfl (by omega) _ qs.length (qs.flatMap pntCell) (by rfl) (hO2.own.alloc _) ⟨w2.heap.size, 0, none⟩ 1 1 (pntCell ⟨X.pt, A', c'⟩) (by rfl) (by rfl) (World.news_of_block (heap_alloc_new w2 _)) (by simp [pntCell, Value.oneCell']) (by omega) (by simp [maxLen]; omega) (by omega) (by simp; omega) (w2.heap.size + 1) (by simp) ?_); intro gg capg w4 hown4 hgrow hat hlt4))
      have hO4 := OwnPts.grow (q := ⟨X.pt, A', c'⟩) (hO2.bel ((Below.refl _ _).alloc (Nat.le_refl _) _)) ((own_low hown2 (by omega)).alloc _) hgrow hown4
      exact ⟨⟨(bl_alloc (bl_any (bl_alloc hbw _) hb2) _).grown hgrow (by simp; omega) (fun j e => (hO2.own.lt _ e).1), k + 1, qs ++ [⟨X.pt, A', c'⟩], by omega, rfl, by simp [hql], HN _ rfl, by rw [hql] at hO4; exact hO4⟩, by (simp only [intOf]; omega)⟩
    · have hd : decide ((k : Int) < n) = false := decide_eq_false (by omega)
      obtain rfl : k = n := by omega
      have hQ := HQ.out
      rw [List.take_of_length_le (by omega)] at hQ
      clear HQ
      obtain ⟨vA, vc, rfl⟩ := own_form hO.own
      go_wp2_with fail
      go_ret
      exact ⟨⟨_, qs, rfl, hQ, hO⟩, hbw⟩
end
section
theorem OwnPts.aw {B : Nat} {w w' : World} {S : List Nat} {v : Value} {ps : List VPnt} (h : OwnPts B w v ps) (k : Aw S w w') (hS : ∀ i ∈ S, i < B) : OwnPts B w' v ps :=
  ⟨own_aw h.own k (fun g hg hm => by have := (h.own.lt _ hg).1; have := hS g hm; omega), fun x hx => own_aw (h.lab x hx) k (fun g hg hm => by have := ((h.lab x hx).lt _ hg).1; have := hS g hm; omega)⟩
theorem OwnPts.low {B B' : Nat} {w : World} {v : Value} {ps : List VPnt} (h : OwnPts B w v ps) (k : B' ≤ B) : OwnPts B' w v ps := ⟨own_low h.own k, fun x hx => own_low (h.lab x hx) k⟩
/-- A family's points of its own. -/
structure FamO (w w' : World) (x : VFam) (vA : Option Addr) (vc : Nat) (qs : List VPnt) : Prop where
  pts : qs.map VPnt.pt = x.pts.map VPnt.pt
  own : OwnPts w.heap.size w' (.slice vA qs.length vc) qs
  b : Below w.heap.size w w'
set_option maxHeartbeats 3200000 in
theorem ownFam_any (x : VFam) (w : World) (hl : IsRows pntCell 9 w w.heap.size x.A x.pts.length x.pts) (hlab : ∀ y ∈ x.pts, IsRows labCell 2 w w.heap.size y.A y.pt.labels.length y.pt.labels ∧ y.pt.labels.length ≤ 1048576) (hn : x.pts.length ≤ 1048576) :
    Calls Tryz.prog 55 #[.agg #[.string x.name, .int .i64 (x.kind : Int), .string x.unit, .string x.help, .slice x.A x.pts.length x.c]] w fun e w' => ∃ vA vc qs, e = .returned (.agg #[.string x.name, .int .i64 (x.kind : Int), .string x.unit, .string x.help, .slice vA qs.length vc]) ∧ FamO w w' x vA vc qs := by
  have hz : (w.alloc (.cells #[.string x.name, .int .i64 (x.kind : Int), .string x.unit, .string x.help, .slice x.A x.pts.length x.c] 66)).heap.size = w.heap.size + 1 := by simp
  have hA := ((Aw.refl [] w).alloc (.cells #[.string x.name, .int .i64 (x.kind : Int), .string x.unit, .string x.help, .slice x.A x.pts.length x.c] 66)).alloc (.cells #[.string ⟨#[]⟩, .int .i64 0, .string ⟨#[]⟩, .string ⟨#[]⟩, .slice none 0 0] 66)
  have hb1 := Blk.alloc (Blk.new w 66 #[.string x.name, .int .i64 (x.kind : Int), .string x.unit, .string x.help, .slice x.A x.pts.length x.c]) (.cells #[.string ⟨#[]⟩, .int .i64 0, .string ⟨#[]⟩, .string ⟨#[]⟩, .slice none 0 0] 66)
  have hb2 := Blk.new (w.alloc (.cells #[.string x.name, .int .i64 (x.kind : Int), .string x.unit, .string x.help, .slice x.A x.pts.length x.c] 66)) 66 #[.string ⟨#[]⟩, .int .i64 0, .string ⟨#[]⟩, .string ⟨#[]⟩, .slice none 0 0]
  rw [hz] at hb2
  have hsz := hA.size
  have kP := ownPoints_any x.A x.pts.length x.c x.pts _ ((hl.aw hA (Nat.le_refl _) (by simp)).more hsz) (fun y hy => ⟨((hlab y hy).1.aw hA (Nat.le_refl _) (by simp)).more hsz, (hlab y hy).2⟩) hn
  clear hz hl hlab
  go_enter Tryz.func55, Tryz.ntmps55
  go_upto_region 1 with (fail)
  generalize (w.alloc (.cells #[.string x.name, .int .i64 (x.kind : Int), .string x.unit, .string x.help, .slice x.A x.pts.length x.c] 66)).alloc (.cells #[.string ⟨#[]⟩, .int .i64 0, .string ⟨#[]⟩, .string ⟨#[]⟩, .slice none 0 0] 66) = W at *
  have l1 := Blk.lt hb1
  have l2 := Blk.lt hb2
  generalize hb : w.heap.size = b at *
  have c4 := (Blk.cell hb1 4).trans rfl
  go_upto_region 2 with (go_at_call 101; (with_reducible refine kP.mono ?_); rintro e w1 ⟨⟨v, qs, rfl, hq, hO⟩, hbw⟩; obtain ⟨vA, vc, rfl⟩ := own_form hO.own; have hb11 := Blk.below hb1 hbw (by omega); have hb21 := Blk.below hb2 hbw (by omega); have f4 := Blk.frozen hb11 4; have a4 := (Blk.cell hb11 4).trans rfl)
  have hb12 := Blk.set_ hb11 4 (.slice vA qs.length vc)
  have hb22 := Blk.far hb21 (p := ⟨b, 4, none⟩) (by simp) (.slice vA qs.length vc)
  have hO2 := hO.aw ((Aw.refl [b] w1).setCell (p := ⟨b, 4, none⟩) (.inl (by simp)) (.slice vA qs.length vc)) (by simp; omega)
  have hbl := bl_set (hA.none_bel.trans (hbw.mono (by omega))) (p := ⟨b, 4, none⟩) (by simp; omega) (.slice vA qs.length vc)
  generalize w1.setCell ⟨b, 4, none⟩ (.slice vA qs.length vc) = w2 at *
  have q0 := (Blk.cell hb12 0).trans rfl; have q1 := (Blk.cell hb12 1).trans rfl; have q2 := (Blk.cell hb12 2).trans rfl; have q3 := (Blk.cell hb12 3).trans rfl; have q4 := (Blk.cell hb12 4).trans rfl
  have d0 := (Blk.cell hb22 0).trans rfl; have d1 := (Blk.cell hb22 1).trans rfl; have d2 := (Blk.cell hb22 2).trans rfl; have d3 := (Blk.cell hb22 3).trans rfl; have d4 := (Blk.cell hb22 4).trans rfl
  have g0 := Blk.frozen hb22 0; have g1 := Blk.frozen hb22 1; have g2 := Blk.frozen hb22 2; have g3 := Blk.frozen hb22 3; have g4 := Blk.frozen hb22 4
  go_wp2_with fail
  have hA9 := ((((((Aw.refl [b + 1] w2).setCell (p := ⟨b + 1, 0, none⟩) (.inl (by simp)) (.string x.name)).setCell (p := ⟨b + 1, 1, none⟩) (.inl (by simp)) (.int .i64 (x.kind : Int))).setCell (p := ⟨b + 1, 2, none⟩) (.inl (by simp)) (.string x.unit)).setCell (p := ⟨b + 1, 3, none⟩) (.inl (by simp)) (.string x.help)).setCell (p := ⟨b + 1, 4, none⟩) (.inl (by simp)) (.slice vA qs.length vc))
  refine bodyPost_ret (v := .agg #[.string x.name, .int .i64 (x.kind : Int), .string x.unit, .string x.help, .slice vA qs.length vc]) (by simp [results, Tryz.results55, go_sem, d0, d1, d2, d3, d4]) rfl ⟨vA, vc, qs, rfl, hq, ?_, ?_⟩
  · rw [hb]
    exact (hO2.aw hA9 (by simp; omega)).low (by omega)
  · exact hbl.trans (hA9.bel_of (fun k hk => by simp at hk; omega) (by have := hbl.size; omega))
set_option maxHeartbeats 3200000 in
theorem famSort_one (x : VFam) (w : World) (hl : IsRows pntCell 9 w w.heap.size x.A x.pts.length x.pts) (hlab : ∀ y ∈ x.pts, IsRows labCell 2 w w.heap.size y.A y.pt.labels.length y.pt.labels ∧ y.pt.labels.length ≤ 1048576) (hn : x.pts.length ≤ 1) :
    Calls Tryz.prog 26 #[.agg #[.string x.name, .int .i64 (x.kind : Int), .string x.unit, .string x.help, .slice x.A x.pts.length x.c]] w fun e w' => ∃ vA vc qs, e = .returned (.tuple #[.agg #[.string x.name, .int .i64 (x.kind : Int), .string x.unit, .string x.help, .slice vA qs.length vc], .bool true]) ∧ FamO w w' x vA vc qs := by
  have hz : (w.alloc (.cells #[.string x.name, .int .i64 (x.kind : Int), .string x.unit, .string x.help, .slice x.A x.pts.length x.c] 66)).heap.size = w.heap.size + 1 := by simp
  have hA := ((Aw.refl [] w).alloc (.cells #[.string x.name, .int .i64 (x.kind : Int), .string x.unit, .string x.help, .slice x.A x.pts.length x.c] 66)).alloc (.cells #[.string ⟨#[]⟩, .int .i64 0, .string ⟨#[]⟩, .string ⟨#[]⟩, .slice none 0 0] 66)
  have hb1 := Blk.alloc (Blk.new w 66 #[.string x.name, .int .i64 (x.kind : Int), .string x.unit, .string x.help, .slice x.A x.pts.length x.c]) (.cells #[.string ⟨#[]⟩, .int .i64 0, .string ⟨#[]⟩, .string ⟨#[]⟩, .slice none 0 0] 66)
  have hb2 := Blk.new (w.alloc (.cells #[.string x.name, .int .i64 (x.kind : Int), .string x.unit, .string x.help, .slice x.A x.pts.length x.c] 66)) 66 #[.string ⟨#[]⟩, .int .i64 0, .string ⟨#[]⟩, .string ⟨#[]⟩, .slice none 0 0]
  rw [hz] at hb2
  have hsz := hA.size
  have kP := ownFam_any x _ ((hl.aw hA (Nat.le_refl _) (by simp)).more hsz) (fun y hy => ⟨((hlab y hy).1.aw hA (Nat.le_refl _) (by simp)).more hsz, (hlab y hy).2⟩) (by omega)
  clear hz hl hlab
  go_enter Tryz.func26, Tryz.ntmps26
  go_upto_region 1 with (fail)
  generalize (w.alloc (.cells #[.string x.name, .int .i64 (x.kind : Int), .string x.unit, .string x.help, .slice x.A x.pts.length x.c] 66)).alloc (.cells #[.string ⟨#[]⟩, .int .i64 0, .string ⟨#[]⟩, .string ⟨#[]⟩, .slice none 0 0] 66) = W at *
  have l1 := Blk.lt hb1
  have l2 := Blk.lt hb2
  generalize hb : w.heap.size = b at *
  have c0 := (Blk.cell hb1 0).trans rfl; have c1 := (Blk.cell hb1 1).trans rfl; have c2 := (Blk.cell hb1 2).trans rfl; have c3 := (Blk.cell hb1 3).trans rfl; have c4 := (Blk.cell hb1 4).trans rfl
  go_upto_region 2 with (go_at_call 55; (with_reducible refine kP.mono ?_); rintro e w1 ⟨vA, vc, qs, rfl, hF⟩; have hb11 := Blk.below hb1 hF.b (by omega); have hb21 := Blk.below hb2 hF.b (by omega); have f0 := Blk.frozen hb11 0; have f1 := Blk.frozen hb11 1; have f2 := Blk.frozen hb11 2; have f3 := Blk.frozen hb11 3; have f4 := Blk.frozen hb11 4; have a0 := (Blk.cell hb11 0).trans rfl; have a1 := (Blk.cell hb11 1).trans rfl; have a2 := (Blk.cell hb11 2).trans rfl; have a3 := (Blk.cell hb11 3).trans rfl; have a4 := (Blk.cell hb11 4).trans rfl)
  have hq := hF.pts
  have hql : qs.length ≤ 1 := by have := congrArg List.length hq; simp at this; omega
  have hO := hF.own
  have hbw := hF.b
  have hb12 := (Blk.set_ (Blk.set_ (Blk.set_ (Blk.set_ (Blk.set_ hb11 0 (.string x.name)) 1 (.int .i64 (x.kind : Int))) 2 (.string x.unit)) 3 (.string x.help)) 4 (.slice vA qs.length vc))
  have hAb := ((((((Aw.refl [b] w1).setCell (p := ⟨b, 0, none⟩) (.inl (by simp)) (.string x.name)).setCell (p := ⟨b, 1, none⟩) (.inl (by simp)) (.int .i64 (x.kind : Int))).setCell (p := ⟨b, 2, none⟩) (.inl (by simp)) (.string x.unit)).setCell (p := ⟨b, 3, none⟩) (.inl (by simp)) (.string x.help)).setCell (p := ⟨b, 4, none⟩) (.inl (by simp)) (.slice vA qs.length vc))
  have hb22 := Blk.aw hb21 hAb (by simp)
  have hO2 := hO.aw hAb (by simp; omega)
  have hbl := (hA.none_bel.trans (hbw.mono (by omega))).trans (hAb.bel_of (B := w.heap.size) (by simp; omega) (by have := hbw.size; omega))
  clear hAb hF
  generalize (((((w1.setCell ⟨b, 0, none⟩ (.string x.name)).setCell ⟨b, 1, none⟩ (.int .i64 (x.kind : Int))).setCell ⟨b, 2, none⟩ (.string x.unit)).setCell ⟨b, 3, none⟩ (.string x.help)).setCell ⟨b, 4, none⟩ (.slice vA qs.length vc)) = w2 at *
  have q0 := (Blk.cell hb12 0).trans rfl; have q1 := (Blk.cell hb12 1).trans rfl; have q2 := (Blk.cell hb12 2).trans rfl; have q3 := (Blk.cell hb12 3).trans rfl; have q4 := (Blk.cell hb12 4).trans rfl
  have d0 := (Blk.cell hb22 0).trans rfl; have d1 := (Blk.cell hb22 1).trans rfl; have d2 := (Blk.cell hb22 2).trans rfl; have d3 := (Blk.cell hb22 3).trans rfl; have d4 := (Blk.cell hb22 4).trans rfl
  have g0 := Blk.frozen hb22 0; have g1 := Blk.frozen hb22 1; have g2 := Blk.frozen hb22 2; have g3 := Blk.frozen hb22 3; have g4 := Blk.frozen hb22 4
  have kS := fun W f => psortOne vA vc f qs.length (by omega) W
  have kR := fun W => risesOne vA vc qs.length (by omega) W
  clear hb11 hb21 hb1 hb2
  go_wp2_with (first
    | (go_at_call 56; (with_reducible refine (kS _ _).mono ?_); rintro e w3 ⟨rfl, hw3⟩; rw [hw3]; clear hw3 w3)
    | (go_at_call 58; (with_reducible refine (kR _).mono ?_); rintro e w4 ⟨rfl, hw4⟩; rw [hw4]; clear hw4 w4))
  have hA9 := ((((((Aw.refl [b + 1] w2).setCell (p := ⟨b + 1, 0, none⟩) (.inl (by simp)) (.string x.name)).setCell (p := ⟨b + 1, 1, none⟩) (.inl (by simp)) (.int .i64 (x.kind : Int))).setCell (p := ⟨b + 1, 2, none⟩) (.inl (by simp)) (.string x.unit)).setCell (p := ⟨b + 1, 3, none⟩) (.inl (by simp)) (.string x.help)).setCell (p := ⟨b + 1, 4, none⟩) (.inl (by simp)) (.slice vA qs.length vc))
  refine bodyPost_ret (v := .tuple #[.agg #[.string x.name, .int .i64 (x.kind : Int), .string x.unit, .string x.help, .slice vA qs.length vc], .bool true]) (by simp [results, Tryz.results26, go_sem, d0, d1, d2, d3, d4]) rfl ⟨vA, vc, qs, rfl, hq, ?_, ?_⟩
  · rw [hb]
    exact (hO2.aw hA9 (by simp; omega)).low (by omega)
  · exact hbl.trans (hA9.bel_of (fun k hk => by simp at hk; omega) (by have := hbl.size; omega))
end
section
theorem cutL_leR (l : List UInt8) (a b : Nat) : (cutL l a b).length ≤ l.length := by
  unfold cutL; rw [List.length_take, List.length_drop]; omega
theorem dTagsGo_len (l : List UInt8) : ∀ f a no acc, (dTagsGo l f a no acc).1.length ≤ acc.length + f
  | 0, a, no, acc => by simp [dTagsGo]
  | f + 1, a, no, acc => by
    unfold dTagsGo
    split
    · have := dTagsGo_len l f (dTagS l (a + 1) false).2.1 (dTagS l (a + 1) false).2.2 (acc ++ [(dTagS l (a + 1) false).1])
      simp at this ⊢; omega
    · simp
def RowOkD (l : List UInt8) (x : MRow) : Prop := x.tags.length ≤ l.length + 1 ∧ x.name.size ≤ l.length ∧ x.text.size ≤ l.length ∧ x.time.size ≤ l.length
theorem dotLine_ok (l : List UInt8) (a : Nat) : RowOkD l (dotLineS l a).1 := by
  have hc : ∀ a b, (mkS (cutL l a b)).size ≤ l.length := fun a b => cutL_leR l a b
  unfold dotLineS
  simp only
  refine ⟨?_, hc _ _, hc _ _, hc _ _⟩
  have := dTagsGo_len l (l.length + 1) (dPathS l a).1 (dPathS l a).2 []
  simpa using this
theorem rowsGo_allR {P : MRow → Prop} (lf : List UInt8 → Nat → MRow × Nat × Bool) (l : List UInt8) (hP : ∀ a, P (lf l a).1) : ∀ f a acc, (∀ x ∈ acc, P x) → ∀ x ∈ (rowsGo lf l f a acc).1, P x
  | 0, a, acc, h => by simpa [rowsGo] using h
  | f + 1, a, acc, h => by
    have hn : ∀ x ∈ acc ++ [(lf l a).1], P x := fun x hx => by
      rcases List.mem_append.1 hx with hx | hx
      · exact h x hx
      · rw [List.mem_singleton.1 hx]; exact hP a
    unfold rowsGo
    split
    · exact h
    · split
      · first | exact hn | exact h
      · exact rowsGo_allR lf l hP f _ _ hn
theorem rowsGo_lenR (lf : List UInt8 → Nat → MRow × Nat × Bool) (l : List UInt8) : ∀ f a acc, (rowsGo lf l f a acc).1.length ≤ acc.length + f
  | 0, a, acc => by simp [rowsGo]
  | f + 1, a, acc => by
    unfold rowsGo
    split
    · simp
    · split
      · simp
      · have := rowsGo_lenR lf l f (lf l a).2.1 (acc ++ [(lf l a).1])
        simp at this ⊢; omega
theorem dotRows_ok (l : List UInt8) : (∀ x ∈ (dotRows l).1, RowOkD l x) ∧ (dotRows l).1.length ≤ l.length + 1 := by
  unfold dotRows
  refine ⟨rowsGo_allR dotLineS l (dotLine_ok l) _ _ _ (by simp), ?_⟩
  have := rowsGo_lenR dotLineS l (l.length + 1) 0 []
  simpa using this
theorem RulesAt.more {w : World} {B B' : Nat} {m : Int} {lA : Option Addr} {xs : List VRule} (h : RulesAt w B m lA xs) (k : B ≤ B') : RulesAt w B' m lA xs :=
  ⟨h.rows.more k, fun x hx => ⟨(h.each x hx).1.more k, (h.each x hx).2⟩, h.mx, Nat.lt_of_lt_of_le h.pos k, h.len⟩
/-! ### a family turned -/
theorem flat_setj {l : List VFam} {i j : Nat} {x y : VFam} {u : Value} (h : l[i]? = some x) (hj : j < 5) (hy : famCell y = (famCell x).set j u) : (l.flatMap famCell).set (i * 5 + j) u = (l.set i y).flatMap famCell := by
  induction l generalizing i with
  | nil => simp at h
  | cons z r ih =>
    cases i with
    | zero =>
      simp at h; subst h
      rw [List.set_cons_zero, List.flatMap_cons, List.flatMap_cons, hy]
      rw [List.set_append_left _ _ (by show 0 * 5 + j < 5; omega)]
      simp
    | succ i =>
      rw [List.set_cons_succ, List.flatMap_cons, List.flatMap_cons, List.set_append_right _ _ (by show 5 ≤ (i + 1) * 5 + j; omega)]
      have e : (i + 1) * 5 + j - (famCell z).length = i * 5 + j := by show (i + 1) * 5 + j - 5 = _; omega
      rw [e, ih (by simpa using h)]
theorem set_same {l : List VFam} {i : Nat} {x : VFam} (h : l[i]? = some x) : l.set i x = l := by
  obtain ⟨hi, e⟩ := List.getElem?_eq_some_iff.1 h
  subst e
  exact List.set_getElem_self hi
def VFam.turn (x : VFam) (qs : List VPnt) (A : Option Addr) (c : Nat) : VFam := { x with pts := qs, A := A, c := c }
theorem FamsAt.turn {w w' : World} {base g fc i : Nat} {l : List VFam} {x : VFam} {qs : List VPnt} {vA : Option Addr} {vc : Nat} (h : FamsAt w base (.slice (some ⟨g, 0, none⟩) l.length fc) l) (hx : l[i]? = some x) (hb : Below w.heap.size w w') (hbase : base ≤ w.heap.size) (hO : OwnPts w.heap.size w' (.slice vA qs.length vc) qs) :
    FamsAt (((((w'.setCell ⟨g, i * 5, none⟩ (.string x.name)).setCell ⟨g, i * 5 + 1, none⟩ (.int .i64 (x.kind : Int))).setCell ⟨g, i * 5 + 2, none⟩ (.string x.unit)).setCell ⟨g, i * 5 + 3, none⟩ (.string x.help)).setCell ⟨g, i * 5 + 4, none⟩ (.slice vA qs.length vc)) base (.slice (some ⟨g, 0, none⟩) l.length fc) (l.set i (x.turn qs vA vc)) := by
  have h' := h.bel hb
  have hA : Aw [g] w' (((((w'.setCell ⟨g, i * 5, none⟩ (.string x.name)).setCell ⟨g, i * 5 + 1, none⟩ (.int .i64 (x.kind : Int))).setCell ⟨g, i * 5 + 2, none⟩ (.string x.unit)).setCell ⟨g, i * 5 + 3, none⟩ (.string x.help)).setCell ⟨g, i * 5 + 4, none⟩ (.slice vA qs.length vc)) := (((((Aw.refl _ _).setCell (.inl (by simp)) _).setCell (.inl (by simp)) _).setCell (.inl (by simp)) _).setCell (.inl (by simp)) _).setCell (.inl (by simp)) _
  have hgl : g < w.heap.size := (h.own.lt g rfl).2
  have hO' := hO.aw hA (by simpa using hgl)
  have hmem : ∀ f, f ∈ l.set i (x.turn qs vA vc) → f = x.turn qs vA vc ∨ f ∈ l := fun f hf => by
    rcases List.mem_or_eq_of_mem_set hf with h1 | h1
    · exact .inr h1
    · exact .inl h1
  have hpt : ∀ f ∈ l, (((((w'.setCell ⟨g, i * 5, none⟩ (.string x.name)).setCell ⟨g, i * 5 + 1, none⟩ (.int .i64 (x.kind : Int))).setCell ⟨g, i * 5 + 2, none⟩ (.string x.unit)).setCell ⟨g, i * 5 + 3, none⟩ (.string x.help)).setCell ⟨g, i * 5 + 4, none⟩ (.slice vA qs.length vc)).ownsRow base 70 9 f.pv f.pts.length (f.pts.flatMap pntCell) := fun f hf => own_aw (h'.pts f hf) hA (fun b hb hs => by
    rw [List.mem_singleton] at hs; subst hs
    exact own_own_ne (h'.pts f hf) h'.own (by decide) b hb rfl)
  refine ⟨?_, fun f hf => ?_, ?_, fun f hf y hy => ?_⟩
  · have h0 := (h'.own.stored (i * 5 + 0) (.string x.name)).1
    rw [flat_setj (y := x) hx (by omega) rfl, set_same hx] at h0
    have h1 := (h0.stored (i * 5 + 1) (.int .i64 (x.kind : Int))).1
    rw [flat_setj (y := x) hx (by omega) rfl, set_same hx] at h1
    have h2 := (h1.stored (i * 5 + 2) (.string x.unit)).1
    rw [flat_setj (y := x) hx (by omega) rfl, set_same hx] at h2
    have h3 := (h2.stored (i * 5 + 3) (.string x.help)).1
    rw [flat_setj (y := x) hx (by omega) rfl, set_same hx] at h3
    have h4 := (h3.stored (i * 5 + 4) (.slice vA qs.length vc)).1
    rw [flat_setj (y := x.turn qs vA vc) hx (by omega) rfl] at h4
    rw [List.length_set]
    exact h4
  · rcases hmem f hf with rfl | hf
    · exact own_low hO'.own hbase
    · exact hpt f hf
  · rw [List.pairwise_iff_getElem]
    intro j k hj hk hjk b hb hc
    rw [List.length_set] at hj hk
    have hd := List.pairwise_iff_getElem.1 h.dis j k hj hk hjk
    have hnew : ∀ n (hn : n < l.length) b, (x.turn qs vA vc).pv.ownBlock = some b → l[n].pv.ownBlock ≠ some b := fun n hn b hb hc => by
      have h1 := (hO.own.lt b hb).1
      have h2 := ((h.pts l[n] (List.getElem_mem hn)).lt b hc).2
      omega
    rw [List.getElem_set] at hb hc
    split at hb
    · split at hc
      · omega
      · exact hnew k hk b hb hc
    · split at hc
      · exact hnew j hj b hc hb
      · exact hd b hb hc
  · rcases hmem f hf with rfl | hf
    · exact own_low (hO'.lab y hy) hbase
    · exact own_aw (h'.lab f hf y hy) hA (fun b hb hs => by
        rw [List.mem_singleton] at hs; subst hs
        exact own_own_ne (h'.lab f hf y hy) h'.own (by decide) b hb rfl)
theorem turn_fam {l : List VFam} {i : Nat} {x : VFam} {qs : List VPnt} {vA : Option Addr} {vc : Nat} (hx : l[i]? = some x) (hq : qs.map VPnt.pt = x.pts.map VPnt.pt) : (l.set i (x.turn qs vA vc)).map VFam.fam = l.map VFam.fam := by
  rw [List.map_set]
  have e : (x.turn qs vA vc).fam = x.fam := by simp [VFam.turn, VFam.fam, hq]
  rw [e]
  obtain ⟨hi, e2⟩ := List.getElem?_eq_some_iff.1 hx
  subst e2
  rw [← List.map_set, set_same (List.getElem?_eq_getElem hi)]
end
section
/-- Families that a call tells, with their points and labels. -/
def HasFams (w : World) (B : Nat) (A : Option Addr) (n : Nat) (gs : List MFam) : Prop :=
  ∃ fs : List VFam, fs.map VFam.fam = gs ∧ IsRows famCell 5 w B A n fs ∧ ∀ f ∈ fs, IsRows pntCell 9 w B f.A f.pts.length f.pts ∧ ∀ y ∈ f.pts, IsRows labCell 2 w B y.A y.pt.labels.length y.pt.labels
theorem HasFams.below {w w' : World} {B : Nat} {A : Option Addr} {n : Nat} {gs : List MFam} (h : HasFams w B A n gs) (k : Below B w w') : HasFams w' B A n gs := by
  obtain ⟨l, h1, h2, h3⟩ := h
  exact ⟨l, h1, h2.below k, fun f hf => ⟨(h3 f hf).1.below k, fun y hy => ((h3 f hf).2 y hy).below k⟩⟩
theorem HasFams.more {w : World} {B B' : Nat} {A : Option Addr} {n : Nat} {gs : List MFam} (h : HasFams w B A n gs) (k : B ≤ B') : HasFams w B' A n gs := by
  obtain ⟨l, h1, h2, h3⟩ := h
  exact ⟨l, h1, h2.more k, fun f hf => ⟨(h3 f hf).1.more k, fun y hy => ((h3 f hf).2 y hy).more k⟩⟩
theorem own_pntR {w : World} {base : Nat} {A : Option Addr} {n cap : Nat} {l : List VPnt} (h : w.ownsRow base 70 9 (.slice A n cap) n (l.flatMap pntCell)) (hl : l.length = n) : IsRows pntCell 9 w w.heap.size A n l := by
  obtain ⟨A', cap', e, hr⟩ := own_rws (f := pntCell) (fun _ => rfl) h hl
  injection e with e1 e2 e3
  subst e1
  exact hr
theorem FamsAt.has {w : World} {base : Nat} {A : Option Addr} {c : Nat} {l : List VFam} (h : FamsAt w base (.slice A l.length c) l) : HasFams w w.heap.size A l.length (l.map VFam.fam) :=
  ⟨l, rfl, h.rows, fun f hf => ⟨own_pntR (h.pts f hf) rfl, fun y hy => own_labR (h.lab f hf y hy) rfl⟩⟩
/-- What Read tells. -/
def ReadDP (s : ByteArray) (w : World) : Except (Nat × Nat) (List MFam) → Ending → Prop
  | .error x, en => en = .returned (.tuple #[.slice none 0 0, .agg #[.int .i64 (x.1 : Int), .int .i64 (fltO x.1 s x.2), .int .i64 (fltL x.1 s x.2), .int .i64 (fltC x.1 s x.2)]])
  | .ok gs, en => ∃ A n cap, en = .returned (.tuple #[.slice A n cap, .agg #[.int .i64 0, .int .i64 0, .int .i64 0, .int .i64 0]]) ∧ HasFams w w.heap.size A n gs
set_option maxRecDepth 100000 in
set_option maxHeartbeats 12800000 in
theorem dread24_any (s : ByteArray) (lA : Option Addr) (lc : Nat) (xs : List VRule) (m : Int) (w : World) (hs : s.size ≤ 1048575) (hru : RulesAt w w.heap.size m lA xs) (H1 : ∀ gs, readD s.data.toList (xs.map VRule.rule) = .ok gs → gs.length ≤ 1 ∧ ∀ g ∈ gs, g.pts.length ≤ 1) :
    Calls Tryz.prog 14 #[.string s, .slice lA xs.length lc] w fun en w' => ReadDP s w' (readD s.data.toList (xs.map VRule.rule)) en ∧ Below w.heap.size w w' := by
  have hL : s.data.toList.length = s.size := by simp
  have hs5 : s.size ≤ 4611686018427387903 := by omega
  have k14 : ∀ W, Calls Tryz.prog 19 #[.int .i64 14, .string s, .int .i64 0] W fun e w' => e = .returned (.agg #[.int .i64 14, .int .i64 (fltO 14 s 0), .int .i64 (fltL 14 s 0), .int .i64 (fltC 14 s 0)]) ∧ Below W.heap.size W w' := fun W => spAt_any 14 s 0 W hs5
  have k11 : ∀ o W, Calls Tryz.prog 19 #[.int .i64 11, .string s, .int .i64 o] W fun e w' => e = .returned (.agg #[.int .i64 11, .int .i64 (fltO 11 s o), .int .i64 (fltL 11 s o), .int .i64 (fltC 11 s o)]) ∧ Below W.heap.size W w' := fun o W => spAt_any 11 s o W hs5
  have hF0 := Blk.new w 46 #[.int .i64 0, .int .i64 0, .int .i64 0, .int .i64 0]
  have hb0 : Below w.heap.size w (w.alloc (.cells #[.int .i64 0, .int .i64 0, .int .i64 0, .int .i64 0] 46)) := (Below.refl _ _).alloc (Nat.le_refl _) _
  obtain ⟨R, hR⟩ : ∃ R, readD s.data.toList (xs.map VRule.rule) = R := ⟨_, rfl⟩
  rw [hR] at H1 ⊢
  unfold readD at hR
  rw [hL] at hR
  by_cases h4 : 4000 < s.size
  case pos =>
    rw [if_pos h4] at hR
    subst hR
    have d4 : decide ((4000 : Int) < (s.size : Int)) = true := decide_eq_true (by omega)
    have d4n : decide (4000 < s.size) = true := decide_eq_true h4
    simp only [ReadDP]
    clear hru H1
    go_enter Tryz.func14, Tryz.ntmps14
    go_wp2_with (go_at_call 19; (with_reducible refine (k14 _).mono ?_); rintro en w1 ⟨rfl, hb1⟩; have h1 := hF0.below hb1 (by simp); have c0 := (Blk.cell h1 0).trans rfl; have c1 := (Blk.cell h1 1).trans rfl; have c2 := (Blk.cell h1 2).trans rfl; have c3 := (Blk.cell h1 3).trans rfl; have f0 := Blk.frozen h1 0; have f1 := Blk.frozen h1 1; have f2 := Blk.frozen h1 2; have f3 := Blk.frozen h1 3)
    refine bodyPost_ret (v := .tuple #[.slice none 0 0, .agg #[.int .i64 14, .int .i64 (fltO 14 s 0), .int .i64 (fltL 14 s 0), .int .i64 (fltC 14 s 0)]]) (by simp [results, Tryz.results14, go_sem, c0, c1, c2, c3]) rfl ⟨rfl, ?_⟩
    exact bl_set (bl_set (bl_set (bl_set (bl_any hb0 hb1) (Nat.le_refl _) _) (Nat.le_refl _) _) (Nat.le_refl _) _) (Nat.le_refl _) _
  case neg =>
    rw [if_neg h4] at hR
    have d4 : decide ((4000 : Int) < (s.size : Int)) = false := decide_eq_false (by omega)
    have d4n : decide (4000 < s.size) = false := decide_eq_false h4
    have kRw := fun W => drows_any s W (by omega)
    have kB := fun W => dbad_any s W (by omega)
    obtain ⟨hok, hlen⟩ := dotRows_ok s.data.toList
    rw [hL] at hlen
    unfold dotBad at kB
    generalize dotRows s.data.toList = Q at *
    obtain ⟨Q1, Qa, Qn⟩ := Q
    cases Qn
    case true =>
      simp only [if_true] at hR kB
      subst hR
      simp only [ReadDP]
      clear hok hlen hru H1
      have kRw' : ∀ W, Calls Tryz.prog 9 #[.string s] W fun e w' => (∃ A n c, e = .returned (.tuple #[.slice A n c, .bool false])) ∧ Below W.heap.size W w' := fun W => (kRw W).mono fun e w' ⟨⟨A, n, c, h1, _⟩, h3⟩ => ⟨⟨A, n, c, h1⟩, h3⟩
      clear kRw
      go_enter Tryz.func14, Tryz.ntmps14
      go_wp2_with (first
        | (go_at_call 9; (with_reducible refine (kRw' _).mono ?_); rintro en w1 ⟨⟨A, n, cc, rfl⟩, hb1⟩; have h1 := hF0.below hb1 (by simp))
        | (go_at_call 11; (with_reducible refine (kB _).mono ?_); rintro en w2 ⟨rfl, hb2⟩; have h2 := h1.below hb2 (Blk.lt h1))
        | (go_at_call 19; (with_reducible refine (k11 _ _).mono ?_); rintro en w3 ⟨rfl, hb3⟩; have h3 := h2.below hb3 (Blk.lt h2); have c0 := (Blk.cell h3 0).trans rfl; have c1 := (Blk.cell h3 1).trans rfl; have c2 := (Blk.cell h3 2).trans rfl; have c3 := (Blk.cell h3 3).trans rfl; have f0 := Blk.frozen h3 0; have f1 := Blk.frozen h3 1; have f2 := Blk.frozen h3 2; have f3 := Blk.frozen h3 3))
      refine bodyPost_ret (v := .tuple #[.slice none 0 0, .agg #[.int .i64 11, .int .i64 (fltO 11 s Qa), .int .i64 (fltL 11 s Qa), .int .i64 (fltC 11 s Qa)]]) (by simp [results, Tryz.results14, go_sem, c0, c1, c2, c3]) rfl ⟨rfl, ?_⟩
      exact bl_set (bl_set (bl_set (bl_set (bl_any (bl_any (bl_any hb0 hb1) hb2) hb3) (Nat.le_refl _) _) (Nat.le_refl _) _) (Nat.le_refl _) _) (Nat.le_refl _) _
    case false =>
      simp only [Bool.false_eq_true, if_false] at hR
      clear kB k11 k14
      have HO := Lib.hid hok
      have HH := Lib.hid H1
      clear hok H1
      go_enter Tryz.func14, Tryz.ntmps14
      go_upto_region 7 with (go_at_call 9; (with_reducible refine (kRw _).mono ?_); rintro en w1 ⟨⟨A, n, cc, rfl, hrows⟩, hb1⟩; have h1 := hF0.below hb1 (by simp))
      have hA2 : Aw [] w1 (w1.alloc (.cells #[.int .i64 0, .int .i64 0, .int .i64 0, .int .i64 0, .string s, .slice lA xs.length lc, .slice none 0 0, .int .i64 0] 92)) := (Aw.refl [] w1).alloc _
      have hrd : Dr (w1.alloc (.cells #[.int .i64 0, .int .i64 0, .int .i64 0, .int .i64 0, .string s, .slice lA xs.length lc, .slice none 0 0, .int .i64 0] 92)) w1.heap.size 0 0 0 0 s (.slice lA xs.length lc) (.slice none 0 0) 0 := Blk.new w1 _ _
      have hx1 : w.heap.size < w1.heap.size := Blk.lt h1
      have h2 := Blk.aw h1 hA2 (by simp)
      have hbW : Below w.heap.size w (w1.alloc (.cells #[.int .i64 0, .int .i64 0, .int .i64 0, .int .i64 0, .string s, .slice lA xs.length lc, .slice none 0 0, .int .i64 0] 92)) := bl_any (bl_any hb0 hb1) hA2.none_bel
      have hru2 := (hru.aw (r := w1.heap.size) (w' := w1.alloc (.cells #[.int .i64 0, .int .i64 0, .int .i64 0, .int .i64 0, .string s, .slice lA xs.length lc, .slice none 0 0, .int .i64 0] 92)) ((Aw.ofBelow (S := [w1.heap.size]) hb0).trans ((Aw.ofBelow hb1).trans (hA2.mono (by simp)))) (Nat.le_refl _) (by omega)).more (Nat.le_of_lt hx1)
      generalize w1.alloc (.cells #[.int .i64 0, .int .i64 0, .int .i64 0, .int .i64 0, .string s, .slice lA xs.length lc, .slice none 0 0, .int .i64 0] 92) = W0 at *
      generalize hr : w1.heap.size = r at *
      have hda : DA W0 W0 r 0 0 0 0 s (.slice lA xs.length lc) (.slice none 0 0) [] 0 := ⟨hrd, FamsAt.nil_, Aw.refl _ _, Blk.lt hrd⟩
      simp only [Bool.false_eq_true, if_false] at hrows
      obtain ⟨rows, hm, hr1, hr2⟩ := hrows
      have hrl := hr1.1
      have hml : rows.length = Q1.length := by rw [← hm]; simp
      have hr1' := hr1.aw hA2 (Nat.le_of_eq hr.symm) (by simp)
      have HA := Lib.hid (fun X (hX : X ∈ rows) => (by
        have h5 := HO.out X.row (by rw [← hm]; exact List.mem_map.2 ⟨X, hX, rfl⟩)
        unfold RowOkD at h5
        rw [hL] at h5
        exact ⟨(hr2 X hX).1.aw hA2 (Nat.le_of_eq hr.symm) (by simp), by omega, by omega, by omega, by omega⟩ : IsRows tagCell 4 W0 r X.tA X.row.tags.length X.row.tags ∧ X.row.tags.length ≤ 10000 ∧ X.row.name.size ≤ 1048576 ∧ X.row.text.size ≤ 1048576 ∧ X.row.time.size ≤ 1048576))
      have H0 : Hid (rowsD (xs.map VRule.rule) ((rows.drop 0).map VRow.row) (([] : List VFam).map VFam.fam) 0 = R) := Lib.hid (by rw [List.drop_zero, hm]; exact hR)
      have hrW := Blk.lt hrd
      clear hr1 hr2 hrd hR HO hru hm
      go_wp2_with fail
      go_loopw [35] (fun i wr => ∃ (j : Nat) (fv : Value) (fs : List VFam) (N : Nat), j ≤ n ∧ i = .int .i64 j ∧ DA W0 wr r 0 0 0 0 s (.slice lA xs.length lc) fv fs N ∧ FOk fs N ∧ Hid (rowsD (xs.map VRule.rule) ((rows.drop j).map VRow.row) (fs.map VFam.fam) N = R)) (fun i _ => n - (intOf i).toNat)
      case atStart => exact ⟨0, _, [], 0, by omega, rfl, hda, ⟨by simp, by omega, by simp⟩, H0⟩
      case round =>
        obtain ⟨j, fv, fs, N, hj, rfl, hda1, hfo, HR⟩ := hrel
        clear H0 hda
        have hAr := hda1.aw
        have hF1 := Blk.aw h2 hAr (by simp; omega)
        by_cases hlt : j < n
        case pos =>
          have hd : decide ((j : Int) < (n : Int)) = true := decide_eq_true (by omega)
          have hdn : decide (j < n) = true := decide_eq_true hlt
          have hj0 : (0 : Int) ≤ j := by omega
          have hj1 : (j : Int) < n := by omega
          have wj : IntKind.i64.wrap ((j : Int) + 1) = (j : Int) + 1 := IntWalk.i64_in _ (by omega)
          have hrw1 := hr1'.aw hAr (by omega) (by simp)
          obtain ⟨b, off, rfl, hb, hcs⟩ := hrw1.2 (by omega)
          obtain ⟨X, hX⟩ : ∃ X, rows[j]? = some X := ⟨_, List.getElem?_eq_getElem (by omega)⟩
          obtain ⟨ht, hx1', hx2, hx3, hx4⟩ := HA.out X (List.mem_of_getElem? hX)
          have q0 : wr.cell? ⟨b, off + j * 10, none⟩ = some (.int .i64 (X.row.kind : Int)) := hcs j X 0 _ hX rfl
          have q1 : wr.cell? ⟨b, off + j * 10 + 1, none⟩ = some (.string X.row.name) := hcs j X 1 _ hX rfl
          have q2 : wr.cell? ⟨b, off + j * 10 + 2, none⟩ = some (.int .i64 (X.row.off : Int)) := hcs j X 2 _ hX rfl
          have q3 : wr.cell? ⟨b, off + j * 10 + 3, none⟩ = some (.slice X.tA X.row.tags.length X.tc) := hcs j X 3 _ hX rfl
          have q4 : wr.cell? ⟨b, off + j * 10 + 4, none⟩ = some (.slice X.fA X.row.fields.length X.fc) := hcs j X 4 _ hX rfl
          have q5 : wr.cell? ⟨b, off + j * 10 + 5, none⟩ = some (.string X.row.text) := hcs j X 5 _ hX rfl
          have q6 : wr.cell? ⟨b, off + j * 10 + 6, none⟩ = some (.int .i64 (X.row.pos : Int)) := hcs j X 6 _ hX rfl
          have q7 : wr.cell? ⟨b, off + j * 10 + 7, none⟩ = some (.bool X.row.timed) := hcs j X 7 _ hX rfl
          have q8 : wr.cell? ⟨b, off + j * 10 + 8, none⟩ = some (.string X.row.time) := hcs j X 8 _ hX rfl
          have q9 : wr.cell? ⟨b, off + j * 10 + 9, none⟩ = some (.int .i64 (X.row.when_ : Int)) := hcs j X 9 _ hX rfl
          have hR := HR.out
          rw [drop_at hX, List.map_cons, rowsD] at hR
          have hA3 : Aw [] wr (wr.alloc (.cells #[.int .i64 (X.row.kind : Int), .string X.row.name, .int .i64 (X.row.off : Int), .slice X.tA X.row.tags.length X.tc, .slice X.fA X.row.fields.length X.fc, .string X.row.text, .int .i64 (X.row.pos : Int), .bool X.row.timed, .string X.row.time, .int .i64 (X.row.when_ : Int)] 74)) := (Aw.refl [] wr).alloc _
          have kL := dline_rd r 0 0 0 0 s lA lc m xs fv fs N X r W0 (wr.alloc (.cells #[.int .i64 (X.row.kind : Int), .string X.row.name, .int .i64 (X.row.off : Int), .slice X.tA X.row.tags.length X.tc, .slice X.fA X.row.fields.length X.fc, .string X.row.text, .int .i64 (X.row.pos : Int), .bool X.row.timed, .string X.row.time, .int .i64 (X.row.when_ : Int)] 74)) (hda1.call hA3) (by omega) hfo hru2 (Nat.le_refl _) ht hx1' hx2 hx3 hx4
          have hF2 := Blk.aw hF1 hA3 (by simp)
          clear hcs hX HR ht
          generalize rowD (xs.map VRule.rule) (fs.map VFam.fam) N X.row = R1 at *
          cases R1 with
          | error y =>
            simp only at hR
            subst hR
            simp only [PutsP] at kL
            try simp only [ReadDP]
            go_upto_region 11 with (go_at_call 25; (with_reducible refine kL.mono ?_); rintro en w5 ⟨rfl, ⟨fv5, N5, h5⟩, hA5⟩; unfold Drf at h5)
            have h3 := Blk.aw h2 hA5 (by simp; omega)
            obtain ⟨⟨r0, r1, r2, r3, _⟩, _⟩ := h5.facts
            have c0 := (Blk.cell h3 0).trans rfl
            have c1 := (Blk.cell h3 1).trans rfl
            have c2 := (Blk.cell h3 2).trans rfl
            have c3 := (Blk.cell h3 3).trans rfl
            have f0 := Blk.frozen h3 0
            have f1 := Blk.frozen h3 1
            have f2 := Blk.frozen h3 2
            have f3 := Blk.frozen h3 3
            have hbl := hbW.trans (hA5.bel_of (B := w.heap.size) (by simp; omega) hbW.size)
            go_region
            all_goals
              go_wp2_with fail
              refine bodyPost_ret (v := .tuple #[.slice none 0 0, .agg #[.int .i64 (y.1 : Int), .int .i64 (fltO y.1 s y.2), .int .i64 (fltL y.1 s y.2), .int .i64 (fltC y.1 s y.2)]]) (by simp [results, Tryz.results14, go_sem, c0, c1, c2, c3]) rfl ⟨rfl, ?_⟩
              exact bl_set (bl_set (bl_set (bl_set hbl.drew (Nat.le_refl _) _) (Nat.le_refl _) _) (Nat.le_refl _) _) (Nat.le_refl _) _
          | ok gs =>
            simp only at hR
            have HR := Lib.hid hR
            simp only [PutsP] at kL
            clear hR
            go_wp2_with (go_at_call 25; (with_reducible refine kL.mono ?_); rintro en w5 ⟨rfl, fv', fs', rfl, hda5, hfo5⟩)
            exact ⟨⟨j + 1, fv', fs', N + 1, by omega, rfl, hda5, hfo5, HR⟩, by (simp only [intOf]; omega)⟩
        case neg =>
          have hd : decide ((j : Int) < (n : Int)) = false := decide_eq_false (by omega)
          have hdn : decide (j < n) = false := decide_eq_false hlt
          have hR := HR.out
          rw [List.drop_of_length_le (by omega), List.map_nil, rowsD] at hR
          subst hR
          obtain ⟨hg1, hg2⟩ := HH.out _ rfl
          clear HH HR
          rw [List.length_map] at hg1
          rcases fs with _ | ⟨x, _ | ⟨z, tl⟩⟩
          case nil =>
            obtain ⟨fA, fc, rfl⟩ := hda1.fams.form
            have kT := fun W f => fsortOne fA fc f 0 (by omega) W
            obtain ⟨⟨_, _, _, _, _, _, u6, u7⟩, _⟩ := hda1.rd.facts
            go_upto_region 13 with (fail)
            go_wp2_with fail
            refine wp_loop_rounds 1 ?_
            rw [rounds_succ]
            go_upto_region 18 with (fail)
            have hw0 : w.heap.size < W0.heap.size := by omega
            have h3 := Blk.aw h2 hda1.aw (by simp; omega)
            have c0 := (Blk.cell h3 0).trans rfl; have c1 := (Blk.cell h3 1).trans rfl; have c2 := (Blk.cell h3 2).trans rfl; have c3 := (Blk.cell h3 3).trans rfl; have f0 := Blk.frozen h3 0; have f1 := Blk.frozen h3 1; have f2 := Blk.frozen h3 2; have f3 := Blk.frozen h3 3
            have hbl := hbW.trans (hda1.aw.bel_of (B := w.heap.size) (by simp; omega) hbW.size)
            have kz := ((((Aw.refl [w.heap.size] wr).setCell (p := ⟨w.heap.size, 0, none⟩) (.inl (by simp)) (.int .i64 0)).setCell (p := ⟨w.heap.size, 1, none⟩) (.inl (by simp)) (.int .i64 0)).setCell (p := ⟨w.heap.size, 2, none⟩) (.inl (by simp)) (.int .i64 0)).setCell (p := ⟨w.heap.size, 3, none⟩) (.inl (by simp)) (.int .i64 0)
            have hfz := hda1.fams.aw kz (fun i hi => by
              rw [List.mem_singleton] at hi; subst hi
              exact .inr ⟨_, _, h3, by decide, by decide, by decide⟩)
            obtain ⟨⟨_, _, _, _, _, _, v6, v7⟩, _⟩ := hda1.rd.facts
            go_wp2_with (go_at_call 27; (with_reducible refine (kT _ _).mono ?_); rintro en w9 ⟨rfl, hw9⟩; rw [hw9]; clear hw9 w9)
            refine bodyPost_ret (v := .tuple #[.slice fA 0 fc, .agg #[.int .i64 0, .int .i64 0, .int .i64 0, .int .i64 0]]) (by simp [results, Tryz.results14, go_sem, c0, c1, c2, c3]) rfl ⟨⟨fA, 0, fc, rfl, hfz.has⟩, ?_⟩
            exact bl_set (bl_set (bl_set (bl_set hbl (Nat.le_refl _) _) (Nat.le_refl _) _) (Nat.le_refl _) _) (Nat.le_refl _) _
          case cons.cons => simp at hg1
          case cons.nil =>
            obtain ⟨g, fc, rfl, hgb, z4, z5⟩ := hda1.fams.at_ (i := 0) (X := x) rfl
            clear z4 z5
            have kT := fun W f => fsortOne (some ⟨g, 0, none⟩) fc f 1 (by omega) W
            obtain ⟨⟨_, _, _, _, _, _, u6, u7⟩, _⟩ := hda1.rd.facts
            have y0 : wr.cell? ⟨g, 0, none⟩ = some (.string x.name) := hda1.fams.own.cellAt 0 (by simp)
            have y1 : wr.cell? ⟨g, 1, none⟩ = some (.int .i64 (x.kind : Int)) := hda1.fams.own.cellAt 1 (by simp)
            have y2 : wr.cell? ⟨g, 2, none⟩ = some (.string x.unit) := hda1.fams.own.cellAt 2 (by simp)
            have y3 : wr.cell? ⟨g, 3, none⟩ = some (.string x.help) := hda1.fams.own.cellAt 3 (by simp)
            have y4 : wr.cell? ⟨g, 4, none⟩ = some (.slice x.A x.pts.length x.c) := hda1.fams.own.cellAt 4 (by simp)
            go_upto_region 13 with (fail)
            go_wp2_with fail
            refine wp_loop_rounds 2 ?_
            rw [rounds_succ]
            go_upto_region 16 with (fail)
            have hrg : r ≠ g := by omega
            have hpx := hg2 x.fam (by simp)
            have hpl : x.pts.length ≤ 1 := by simpa [VFam.fam] using hpx
            have kS := fun W (hW : DA W0 W r 0 0 0 0 s (.slice lA xs.length lc) (.slice (some ⟨g, 0, none⟩) [x].length fc) [x] N) => famSort_one x W (own_pntR (hW.fams.pts x (by simp)) rfl) (fun y hy => ⟨own_labR (hW.fams.lab x (by simp) y hy) rfl, ((hfo.pts x (by simp)).2 y hy).len⟩) hpl
            have hda2 := hda1.call ((Aw.refl [] wr).alloc (.cells #[.string x.name, .int .i64 (x.kind : Int), .string x.unit, .string x.help, .slice x.A x.pts.length x.c] 66))
            have hcp := Blk.new wr 66 #[.string x.name, .int .i64 (x.kind : Int), .string x.unit, .string x.help, .slice x.A x.pts.length x.c]
            clear y0 y1 y2 y3 y4 u6 u7
            generalize wr.alloc (.cells #[.string x.name, .int .i64 (x.kind : Int), .string x.unit, .string x.help, .slice x.A x.pts.length x.c] 66) = W2 at *
            generalize wr.heap.size = cp at *
            obtain ⟨⟨_, _, _, _, _, _, u6, u7⟩, _⟩ := hda2.rd.facts
            have n0 := (Blk.cell hcp 0).trans rfl; have n1 := (Blk.cell hcp 1).trans rfl; have n2 := (Blk.cell hcp 2).trans rfl; have n3 := (Blk.cell hcp 3).trans rfl; have n4 := (Blk.cell hcp 4).trans rfl
            go_region_law (go_simp; go_at_call 26; (refine (kS _ hda2.drew).mono ?_); rintro en w7 ⟨vA, vc, qs, rfl, hFO⟩; have hda7 := hda2.drew.call (Aw.ofBelow hFO.b); obtain ⟨⟨_, _, _, _, _, _, t6, t7⟩, _⟩ := hda7.rd.facts; have g0 := hda7.fams.own.frozenAt 0; have g1 := hda7.fams.own.frozenAt 1; have g2 := hda7.fams.own.frozenAt 2; have g3 := hda7.fams.own.frozenAt 3; have g4 := hda7.fams.own.frozenAt 4; have y0 : w7.cell? ⟨g, 0, none⟩ = some (.string x.name) := hda7.fams.own.cellAt 0 (by simp); have y1 : w7.cell? ⟨g, 1, none⟩ = some (.int .i64 (x.kind : Int)) := hda7.fams.own.cellAt 1 (by simp); have y2 : w7.cell? ⟨g, 2, none⟩ = some (.string x.unit) := hda7.fams.own.cellAt 2 (by simp); have y3 : w7.cell? ⟨g, 3, none⟩ = some (.string x.help) := hda7.fams.own.cellAt 3 (by simp); have y4 : w7.cell? ⟨g, 4, none⟩ = some (.slice x.A x.pts.length x.c) := hda7.fams.own.cellAt 4 (by simp))
            all_goals
              have hT := FamsAt.turn (i := 0) (x := x) (w := W2.drew) (w' := w7) hda2.drew.fams rfl hFO.b hda2.drew.aw.size hFO.own
              have hda8 : DA W0 (((((w7.setCell ⟨g, 0, none⟩ (.string x.name)).setCell ⟨g, 1, none⟩ (.int .i64 (x.kind : Int))).setCell ⟨g, 2, none⟩ (.string x.unit)).setCell ⟨g, 3, none⟩ (.string x.help)).setCell ⟨g, 4, none⟩ (.slice vA qs.length vc)) r 0 0 0 0 s (.slice lA xs.length lc) (.slice (some ⟨g, 0, none⟩) [x].length fc) ([x].set 0 (x.turn qs vA vc)) N := ⟨(((((hda7.rd.far (p := ⟨g, 0, none⟩) hrg (.string x.name)).far (p := ⟨g, 1, none⟩) hrg (.int .i64 (x.kind : Int))).far (p := ⟨g, 2, none⟩) hrg (.string x.unit)).far (p := ⟨g, 3, none⟩) hrg (.string x.help)).far (p := ⟨g, 4, none⟩) hrg (.slice vA qs.length vc)), hT, (((((hda7.aw.setCell (p := ⟨g, 0, none⟩) (.inr hgb) (.string x.name)).setCell (p := ⟨g, 1, none⟩) (.inr hgb) (.int .i64 (x.kind : Int))).setCell (p := ⟨g, 2, none⟩) (.inr hgb) (.string x.unit)).setCell (p := ⟨g, 3, none⟩) (.inr hgb) (.string x.help)).setCell (p := ⟨g, 4, none⟩) (.inr hgb) (.slice vA qs.length vc)), hda7.rl⟩
              clear hT hda7 g0 g1 g2 g3 g4 y0 y1 y2 y3 y4 t6 t7 kS
              generalize (((((w7.setCell ⟨g, 0, none⟩ (.string x.name)).setCell ⟨g, 1, none⟩ (.int .i64 (x.kind : Int))).setCell ⟨g, 2, none⟩ (.string x.unit)).setCell ⟨g, 3, none⟩ (.string x.help)).setCell ⟨g, 4, none⟩ (.slice vA qs.length vc)) = w8 at *
              obtain ⟨⟨_, _, _, _, _, _, t6, t7⟩, _⟩ := hda8.rd.facts
              go_wp2_with fail
              rw [rounds_succ]
              go_upto_region 18 with (fail)
              have hw0 : w.heap.size < W0.heap.size := by omega
              have h3 := Blk.aw h2 hda8.aw (by simp; omega)
              have c0 := (Blk.cell h3 0).trans rfl; have c1 := (Blk.cell h3 1).trans rfl; have c2 := (Blk.cell h3 2).trans rfl; have c3 := (Blk.cell h3 3).trans rfl; have f0 := Blk.frozen h3 0; have f1 := Blk.frozen h3 1; have f2 := Blk.frozen h3 2; have f3 := Blk.frozen h3 3
              have hbl := hbW.trans (hda8.aw.bel_of (B := w.heap.size) (by simp; omega) hbW.size)
              have kz := ((((Aw.refl [w.heap.size] w8).setCell (p := ⟨w.heap.size, 0, none⟩) (.inl (by simp)) (.int .i64 0)).setCell (p := ⟨w.heap.size, 1, none⟩) (.inl (by simp)) (.int .i64 0)).setCell (p := ⟨w.heap.size, 2, none⟩) (.inl (by simp)) (.int .i64 0)).setCell (p := ⟨w.heap.size, 3, none⟩) (.inl (by simp)) (.int .i64 0)
              have hfz := hda8.fams.aw kz (fun i hi => by
                rw [List.mem_singleton] at hi; subst hi
                exact .inr ⟨_, _, h3, by decide, by decide, by decide⟩)
              obtain ⟨⟨_, _, _, _, _, _, v6, v7⟩, _⟩ := hda8.rd.facts
              go_wp2_with (go_at_call 27; (with_reducible refine (kT _ _).mono ?_); rintro en w9 ⟨rfl, hw9⟩; rw [hw9]; clear hw9 w9)
              refine bodyPost_ret (v := .tuple #[.slice (some ⟨g, 0, none⟩) 1 fc, .agg #[.int .i64 0, .int .i64 0, .int .i64 0, .int .i64 0]]) (by simp [results, Tryz.results14, go_sem, c0, c1, c2, c3]) rfl ⟨⟨some ⟨g, 0, none⟩, 1, fc, rfl, by rw [← turn_fam (vA := vA) (vc := vc) (i := 0) (l := [x]) (x := x) rfl hFO.pts]; exact hfz.has⟩, ?_⟩
              exact bl_set (bl_set (bl_set (bl_set hbl (Nat.le_refl _) _) (Nat.le_refl _) _) (Nat.le_refl _) _) (Nat.le_refl _) _
end
section
/-- What a row makes, once its path is known. -/
def rowA (A : ByteArray × List Lab) (fs : List MFam) (points : Nat) (x : MRow) : Except (Nat × Nat) (List MFam) :=
  if decide (60 < A.1.size) || A.2.any longL then .error (14, x.off)
  else match labGo x.tags A.2 with
    | .error e => .error e
    | .ok l =>
      if (parseD x.text.data.toList).2.1 ≠ 0 then .error (12, x.pos)
      else if (intD x.time.data.toList).2 ≠ 0 then .error (12, x.when_)
      else match msD (intD x.time.data.toList).1 with
        | none => .error (12, x.when_)
        | some ms => putD fs points A.1 (pntD ((sortL l).getD []) (parseD x.text.data.toList).1.1 (parseD x.text.data.toList).1.2 ms) x.off
theorem rowD_A (rules : List MRule) (fs : List MFam) (points : Nat) (x : MRow) : rowD rules fs points x = rowA (applyT rules x.name) fs points x := rfl
theorem readD_one {l : List UInt8} {rules : List MRule} {x : MRow} {a : Nat} {R : Except (Nat × Nat) (List MFam)} (h1 : dotRows l = ([x], a, false)) (h4 : ¬ 4000 < l.length) (h : rowD rules [] 0 x = R) : readD l rules = R := by
  unfold readD
  rw [if_neg h4, h1]
  simp only [Bool.false_eq_true, if_false, rowsD]
  rw [h]
  cases R <;> rfl
def kRu : MRule := ⟨[], [mkS [104, 111, 115, 116], mkS [109, 101, 116, 114, 105, 99]], []⟩
def kx1 : MRow := ⟨0, mkS [97, 46, 98], 0, [⟨mkS [99], mkS [100], 4, 6⟩], [], mkS [49, 46, 53], 8, true, mkS [50], 12⟩
def kx2 : MRow := ⟨0, mkS [104, 46, 99, 112, 117], 0, [⟨mkS [100, 99], mkS [120], 6, 9⟩], [], mkS [49], 11, true, mkS [50], 13⟩
def kx4 : MRow := ⟨0, mkS [104, 46, 99, 112, 117], 0, [⟨mkS [104, 111, 115, 116], mkS [120], 6, 11⟩], [], mkS [49], 13, true, mkS [50], 15⟩
theorem kd1 : dotRows (⟨#[97, 46, 98, 59, 99, 61, 100, 32, 49, 46, 53, 32, 50, 10]⟩ : ByteArray).data.toList = ([kx1], 14, false) := by kernel_rfl
theorem kd2 : dotRows (⟨#[104, 46, 99, 112, 117, 59, 100, 99, 61, 120, 32, 49, 32, 50, 10]⟩ : ByteArray).data.toList = ([kx2], 15, false) := by kernel_rfl
theorem kd4 : dotRows (⟨#[104, 46, 99, 112, 117, 59, 104, 111, 115, 116, 61, 120, 32, 49, 32, 50, 10]⟩ : ByteArray).data.toList = ([kx4], 17, false) := by kernel_rfl
theorem ks0 : (sortL [(mkS [104, 111, 115, 116], mkS [104])]).getD [] = [(mkS [104, 111, 115, 116], mkS [104])] := by
  rw [sortL_some (s := [(mkS [104, 111, 115, 116], mkS [104])]) ⟨List.Perm.refl _, List.pairwise_singleton _ _⟩]
  rfl
theorem kap : applyT [kRu] (mkS [104, 46, 99, 112, 117]) = (mkS [99, 112, 117], [(mkS [104, 111, 115, 116], mkS [104])]) := by
  have h : applyT [kRu] (mkS [104, 46, 99, 112, 117]) = (mkS [99, 112, 117], (sortL [(mkS [104, 111, 115, 116], mkS [104])]).getD []) := by kernel_rfl
  rw [h, ks0]
theorem krd1 : readD (⟨#[97, 46, 98, 59, 99, 61, 100, 32, 49, 46, 53, 32, 50, 10]⟩ : ByteArray).data.toList [] = .ok [⟨mkS [97, 46, 98], 0, mkS [], mkS [], [pntD ((sortL [(mkS [99], mkS [100])]).getD []) 15 1 2000]⟩] :=
  readD_one kd1 (by decide) (by kernel_rfl)
theorem krd2 : readD (⟨#[104, 46, 99, 112, 117, 59, 100, 99, 61, 120, 32, 49, 32, 50, 10]⟩ : ByteArray).data.toList [kRu] = .ok [⟨mkS [99, 112, 117], 0, mkS [], mkS [], [pntD ((sortL [(mkS [104, 111, 115, 116], mkS [104]), (mkS [100, 99], mkS [120])]).getD []) 1 0 2000]⟩] :=
  readD_one kd2 (by decide) (by rw [rowD_A, show kx2.name = mkS [104, 46, 99, 112, 117] from rfl, kap]; kernel_rfl)
theorem krd3 : readD (⟨#[97, 32, 49, 32, 50]⟩ : ByteArray).data.toList [] = .error (11, 5) := by kernel_rfl
theorem krd4 : readD (⟨#[104, 46, 99, 112, 117, 59, 104, 111, 115, 116, 61, 120, 32, 49, 32, 50, 10]⟩ : ByteArray).data.toList [kRu] = .error (13, 6) :=
  readD_one kd4 (by decide) (by rw [rowD_A, show kx4.name = mkS [104, 46, 99, 112, 117] from rfl, kap]; kernel_rfl)
theorem kbd : dotBad (⟨#[97, 46, 46, 98]⟩ : ByteArray).data.toList = 2 := by decide +kernel
theorem ksl2 : ((sortL [(mkS [104, 111, 115, 116], mkS [104]), (mkS [100, 99], mkS [120])]).getD []).length = 2 := by
  rw [sortL_some (s := [(mkS [100, 99], mkS [120]), (mkS [104, 111, 115, 116], mkS [104])]) ⟨List.Perm.swap _ _ _, by simp [nmL, mkS]; decide⟩]
  rfl
end
section
theorem kru_ok : RuleOk kRu := ⟨⟨by simp [kRu], by simp [kRu]⟩, ⟨by simp [kRu], fun x hx => by
  simp only [kRu, List.mem_cons, List.not_mem_nil, or_false] at hx
  rcases hx with rfl | rfl <;> decide⟩, ⟨by simp [kRu], by simp [kRu]⟩⟩
theorem rules_none {W : World} {m : Int} (hm : MxAt W m) : RulesAt W W.heap.size m none [] := ⟨IsRows.nil_, by simp, hm, lt_of_cell hm, by simp⟩
theorem rules_here {W : World} {m : Int} (hm : MxAt W m) : RulesAt ((W.alloc (.cells #[.string ⟨#[104, 111, 115, 116]⟩, .string ⟨#[109, 101, 116, 114, 105, 99]⟩] 9)).alloc (.cells #[.slice none 0 0, .slice (some ⟨W.heap.size, 0, none⟩) 2 2, .slice none 0 0] 40)) ((W.alloc (.cells #[.string ⟨#[104, 111, 115, 116]⟩, .string ⟨#[109, 101, 116, 114, 105, 99]⟩] 9)).alloc (.cells #[.slice none 0 0, .slice (some ⟨W.heap.size, 0, none⟩) 2 2, .slice none 0 0] 40)).heap.size m (some ⟨W.heap.size + 1, 0, none⟩) [⟨kRu, none, 0, some ⟨W.heap.size, 0, none⟩, 2, none, 0⟩] := by
  have hb1 : Below W.heap.size W (W.alloc (.cells #[.string ⟨#[104, 111, 115, 116]⟩, .string ⟨#[109, 101, 116, 114, 105, 99]⟩] 9)) := (Below.refl _ _).alloc (Nat.le_refl _) _
  have hb2 : Below (W.alloc (.cells #[.string ⟨#[104, 111, 115, 116]⟩, .string ⟨#[109, 101, 116, 114, 105, 99]⟩] 9)).heap.size (W.alloc (.cells #[.string ⟨#[104, 111, 115, 116]⟩, .string ⟨#[109, 101, 116, 114, 105, 99]⟩] 9)) ((W.alloc (.cells #[.string ⟨#[104, 111, 115, 116]⟩, .string ⟨#[109, 101, 116, 114, 105, 99]⟩] 9)).alloc (.cells #[.slice none 0 0, .slice (some ⟨W.heap.size, 0, none⟩) 2 2, .slice none 0 0] 40)) := (Below.refl _ _).alloc (Nat.le_refl _) _
  have hz : (W.alloc (.cells #[.string ⟨#[104, 111, 115, 116]⟩, .string ⟨#[109, 101, 116, 114, 105, 99]⟩] 9)).heap.size = W.heap.size + 1 := by simp
  have hs : IsRows strCell 1 (W.alloc (.cells #[.string ⟨#[104, 111, 115, 116]⟩, .string ⟨#[109, 101, 116, 114, 105, 99]⟩] 9)) (W.alloc (.cells #[.string ⟨#[104, 111, 115, 116]⟩, .string ⟨#[109, 101, 116, 114, 105, 99]⟩] 9)).heap.size (some ⟨W.heap.size, 0, none⟩) 2 [⟨#[104, 111, 115, 116]⟩, ⟨#[109, 101, 116, 114, 105, 99]⟩] := IsRows.made (f := strCell) (fun _ => rfl) W _ _ [⟨#[104, 111, 115, 116]⟩, ⟨#[109, 101, 116, 114, 105, 99]⟩] rfl
  have hr : IsRows ruleCell 3 ((W.alloc (.cells #[.string ⟨#[104, 111, 115, 116]⟩, .string ⟨#[109, 101, 116, 114, 105, 99]⟩] 9)).alloc (.cells #[.slice none 0 0, .slice (some ⟨W.heap.size, 0, none⟩) 2 2, .slice none 0 0] 40)) ((W.alloc (.cells #[.string ⟨#[104, 111, 115, 116]⟩, .string ⟨#[109, 101, 116, 114, 105, 99]⟩] 9)).alloc (.cells #[.slice none 0 0, .slice (some ⟨W.heap.size, 0, none⟩) 2 2, .slice none 0 0] 40)).heap.size (some ⟨(W.alloc (.cells #[.string ⟨#[104, 111, 115, 116]⟩, .string ⟨#[109, 101, 116, 114, 105, 99]⟩] 9)).heap.size, 0, none⟩) 1 [⟨kRu, none, 0, some ⟨W.heap.size, 0, none⟩, 2, none, 0⟩] := IsRows.made (f := ruleCell) (fun _ => rfl) (W.alloc (.cells #[.string ⟨#[104, 111, 115, 116]⟩, .string ⟨#[109, 101, 116, 114, 105, 99]⟩] 9)) _ _ [⟨kRu, none, 0, some ⟨W.heap.size, 0, none⟩, 2, none, 0⟩] rfl
  rw [hz] at hr
  refine ⟨hr, fun x hx => ?_, (hm.below hb1).below hb2, by simp, by simp⟩
  rw [List.mem_singleton] at hx
  subst hx
  exact ⟨⟨IsRows.nil_, hs.bel hb2, IsRows.nil_⟩, kru_ok⟩
/-- One family of one point. -/
theorem HasFams.one {w : World} {B : Nat} {A : Option Addr} {n : Nat} {F : MFam} {P : MPnt} (h : HasFams w B A n [F]) (hP : F.pts = [P]) : n = 1 ∧ ∃ b off, A = some ⟨b, off, none⟩ ∧ w.cell? ⟨b, off, none⟩ = some (.string F.name) ∧ ∃ b2 o2 c2, w.cell? ⟨b, off + 4, none⟩ = some (.slice (some ⟨b2, o2, none⟩) 1 c2) ∧ (∃ lA lc, w.cell? ⟨b2, o2, none⟩ = some (.slice lA P.labels.length lc)) ∧ w.cell? ⟨b2, o2 + 8, none⟩ = some (.int .i64 P.time) := by
  obtain ⟨fs, hf, h2, h3⟩ := h
  rcases fs with _ | ⟨f, _ | ⟨g, tl⟩⟩
  · simp at hf
  · simp at hf
    subst hf
    have hn : 1 = n := by simpa using h2.1
    subst hn
    obtain ⟨b, off, rfl, hb, hc⟩ := h2.2 (by omega)
    refine ⟨rfl, b, off, rfl, by have := hc 0 f 0 (.string f.name) rfl rfl; simpa [VFam.fam] using this, ?_⟩
    obtain ⟨h4, h5⟩ := h3 f (by simp)
    have hP' : f.pts.map VPnt.pt = [P] := hP
    generalize hps : f.pts = ps at *
    rcases ps with _ | ⟨p, _ | ⟨q, tl⟩⟩
    · simp at hP'
    · simp at hP'
      subst hP'
      obtain ⟨b2, o2, hA2, hb2, hc2⟩ := h4.2 (by simp)
      refine ⟨b2, o2, f.c, ?_, ⟨p.A, p.c, ?_⟩, ?_⟩
      · have h6 := hc 0 f 4 (.slice f.A f.pts.length f.c) rfl rfl
        rw [hps, hA2] at h6
        simpa using h6
      · have := hc2 0 p 0 _ rfl rfl; simpa using this
      · have := hc2 0 p 8 _ rfl rfl; simpa using this
    · simp at hP'
  · simp at hf
set_option maxRecDepth 100000 in
set_option maxHeartbeats 6400000 in
theorem known24_any (m : Int) (w : World) (hm : MxAt w m) :
    Calls Tryz.prog 8 #[] w fun e w' => e = .returned (.bool true) ∧ Below w.heap.size w w' := by
  have kR1 : ∀ W, MxAt W m → Calls Tryz.prog 14 #[.string ⟨#[97, 46, 98, 59, 99, 61, 100, 32, 49, 46, 53, 32, 50, 10]⟩, .slice none 0 0] W fun en w' => (∃ A n cap, en = .returned (.tuple #[.slice A n cap, .agg #[.int .i64 0, .int .i64 0, .int .i64 0, .int .i64 0]]) ∧ HasFams w' w'.heap.size A n [⟨mkS [97, 46, 98], 0, mkS [], mkS [], [pntD ((sortL [(mkS [99], mkS [100])]).getD []) 15 1 2000]⟩]) ∧ Below W.heap.size W w' := fun W hW => by
    have h := dread24_any ⟨#[97, 46, 98, 59, 99, 61, 100, 32, 49, 46, 53, 32, 50, 10]⟩ none 0 [] m W (by decide) (rules_none hW) (by rw [List.map_nil, krd1]; rintro gs h; injection h with h; subst h; simp)
    rw [List.map_nil, krd1] at h
    exact h
  have kR2 : ∀ W, MxAt W m → Calls Tryz.prog 14 #[.string ⟨#[104, 46, 99, 112, 117, 59, 100, 99, 61, 120, 32, 49, 32, 50, 10]⟩, .slice (some ⟨W.heap.size + 1, 0, none⟩) 1 1] ((W.alloc (.cells #[.string ⟨#[104, 111, 115, 116]⟩, .string ⟨#[109, 101, 116, 114, 105, 99]⟩] 9)).alloc (.cells #[.slice none 0 0, .slice (some ⟨W.heap.size, 0, none⟩) 2 2, .slice none 0 0] 40)) fun en w' => (∃ A n cap, en = .returned (.tuple #[.slice A n cap, .agg #[.int .i64 0, .int .i64 0, .int .i64 0, .int .i64 0]]) ∧ HasFams w' w'.heap.size A n [⟨mkS [99, 112, 117], 0, mkS [], mkS [], [pntD ((sortL [(mkS [104, 111, 115, 116], mkS [104]), (mkS [100, 99], mkS [120])]).getD []) 1 0 2000]⟩]) ∧ Below W.heap.size W w' := fun W hW => by
    have h := dread24_any ⟨#[104, 46, 99, 112, 117, 59, 100, 99, 61, 120, 32, 49, 32, 50, 10]⟩ (some ⟨W.heap.size + 1, 0, none⟩) 1 [⟨kRu, none, 0, some ⟨W.heap.size, 0, none⟩, 2, none, 0⟩] m _ (by decide) (rules_here hW) (by rw [show List.map VRule.rule [(⟨kRu, none, 0, some ⟨W.heap.size, 0, none⟩, 2, none, 0⟩ : VRule)] = [kRu] from rfl, krd2]; rintro gs h; injection h with h; subst h; simp)
    rw [show List.map VRule.rule [(⟨kRu, none, 0, some ⟨W.heap.size, 0, none⟩, 2, none, 0⟩ : VRule)] = [kRu] from rfl, krd2] at h
    exact h.mono fun en w' ⟨h1, h2⟩ => ⟨h1, bl_any (bl_alloc (bl_alloc (Below.refl _ _) _) _) h2⟩
  have kR3 : ∀ W, MxAt W m → Calls Tryz.prog 14 #[.string ⟨#[97, 32, 49, 32, 50]⟩, .slice none 0 0] W fun en w' => (∃ l k, en = .returned (.tuple #[.slice none 0 0, .agg #[.int .i64 11, .int .i64 5, .int .i64 l, .int .i64 k]])) ∧ Below W.heap.size W w' := fun W hW => by
    have h := dread24_any ⟨#[97, 32, 49, 32, 50]⟩ none 0 [] m W (by decide) (rules_none hW) (by rw [List.map_nil, krd3]; rintro gs h; cases h)
    rw [List.map_nil, krd3] at h
    exact h.mono fun en w' ⟨h1, h2⟩ => ⟨⟨_, _, h1⟩, h2⟩
  have kR4 : ∀ W, MxAt W m → Calls Tryz.prog 14 #[.string ⟨#[104, 46, 99, 112, 117, 59, 104, 111, 115, 116, 61, 120, 32, 49, 32, 50, 10]⟩, .slice (some ⟨W.heap.size + 1, 0, none⟩) 1 1] ((W.alloc (.cells #[.string ⟨#[104, 111, 115, 116]⟩, .string ⟨#[109, 101, 116, 114, 105, 99]⟩] 9)).alloc (.cells #[.slice none 0 0, .slice (some ⟨W.heap.size, 0, none⟩) 2 2, .slice none 0 0] 40)) fun en w' => (∃ l k, en = .returned (.tuple #[.slice none 0 0, .agg #[.int .i64 13, .int .i64 6, .int .i64 l, .int .i64 k]])) ∧ Below W.heap.size W w' := fun W hW => by
    have h := dread24_any ⟨#[104, 46, 99, 112, 117, 59, 104, 111, 115, 116, 61, 120, 32, 49, 32, 50, 10]⟩ (some ⟨W.heap.size + 1, 0, none⟩) 1 [⟨kRu, none, 0, some ⟨W.heap.size, 0, none⟩, 2, none, 0⟩] m _ (by decide) (rules_here hW) (by rw [show List.map VRule.rule [(⟨kRu, none, 0, some ⟨W.heap.size, 0, none⟩, 2, none, 0⟩ : VRule)] = [kRu] from rfl, krd4]; rintro gs h; cases h)
    rw [show List.map VRule.rule [(⟨kRu, none, 0, some ⟨W.heap.size, 0, none⟩, 2, none, 0⟩ : VRule)] = [kRu] from rfl, krd4] at h
    exact h.mono fun en w' ⟨h1, h2⟩ => ⟨⟨_, _, h1⟩, bl_any (bl_alloc (bl_alloc (Below.refl _ _) _) _) h2⟩
  have kRw : ∀ W, Calls Tryz.prog 9 #[.string ⟨#[97, 46, 98, 59, 99, 61, 100, 32, 49, 46, 53, 32, 50, 10]⟩] W fun e w' => (∃ b off c, e = .returned (.tuple #[.slice (some ⟨b, off, none⟩) 1 c, .bool true]) ∧ w'.cell? ⟨b, off + 6, none⟩ = some (.int .i64 8) ∧ w'.cell? ⟨b, off + 9, none⟩ = some (.int .i64 12)) ∧ Below W.heap.size W w' := fun W => by
    have h := drows_any ⟨#[97, 46, 98, 59, 99, 61, 100, 32, 49, 46, 53, 32, 50, 10]⟩ W (by decide)
    rw [kd1] at h
    refine h.mono ?_
    rintro e w' ⟨⟨A, n, c, rfl, hr⟩, h2⟩
    simp only [Bool.false_eq_true, if_false] at hr
    obtain ⟨rows, hm', hr1, _⟩ := hr
    rcases rows with _ | ⟨X, _ | ⟨Y, tl⟩⟩
    · simp at hm'
    · simp at hm'
      have hn : 1 = n := by simpa using hr1.1
      subst hn
      obtain ⟨b, off, rfl, hb, hc⟩ := hr1.2 (by omega)
      have h6 := hc 0 X 6 _ rfl rfl
      have h9 := hc 0 X 9 _ rfl rfl
      rw [hm'] at h6 h9
      exact ⟨⟨b, off, c, rfl, by simpa [kx1] using h6, by simpa [kx1] using h9⟩, h2⟩
    · simp at hm'
  have kB : ∀ W, Calls Tryz.prog 11 #[.string ⟨#[97, 46, 46, 98]⟩] W fun e w' => e = .returned (.int .i64 2) ∧ Below W.heap.size W w' := fun W => by
    have h := dbad_any ⟨#[97, 46, 46, 98]⟩ W (by decide)
    rw [kbd] at h
    exact h
  have ef := fun a0 a1 a2 a3 b0 b1 b2 b3 w => eqFault a0 a1 a2 a3 b0 b1 b2 b3 w
  go_enter Tryz.func8, Tryz.ntmps8
  go_upto_region 2 with (go_at_call 14; (with_reducible refine (kR1 _ hm).mono ?_); rintro en w1 ⟨⟨A1, n1, c1, rfl, hl1⟩, hb1⟩)
  have z1 : Blk (w1.alloc (.cells #[.int .i64 0, .int .i64 0, .int .i64 0, .int .i64 0] 46)) w1.heap.size 46 #[.int .i64 0, .int .i64 0, .int .i64 0, .int .i64 0] := Blk.new w1 _ _
  have hW1 := bl_alloc hb1 (.cells #[.int .i64 0, .int .i64 0, .int .i64 0, .int .i64 0] 46)
  have hl1' := hl1.below ((Below.refl w1.heap.size w1).alloc (Nat.le_refl _) (.cells #[.int .i64 0, .int .i64 0, .int .i64 0, .int .i64 0] 46))
  have hv1 := bl_alloc (Below.refl w1.heap.size w1) (.cells #[.int .i64 0, .int .i64 0, .int .i64 0, .int .i64 0] 46)
  generalize hX1 : w1.alloc (.cells #[.int .i64 0, .int .i64 0, .int .i64 0, .int .i64 0] 46) = W1 at *
  clear hX1
  go_upto_region 3 with (go_at_call 14; (with_reducible refine (kR2 _ (hm.below hW1)).mono ?_); rintro en w2 ⟨⟨A2, n2, c2, rfl, hl2⟩, hb2⟩)
  have hW2 : Below w.heap.size w (w2.alloc (.cells #[.int .i64 0, .int .i64 0, .int .i64 0, .int .i64 0] 46)) := bl_alloc (bl_any hW1 hb2) _
  have hv2 : Below w2.heap.size w2 (w2.alloc (.cells #[.int .i64 0, .int .i64 0, .int .i64 0, .int .i64 0] 46)) := bl_alloc (Below.refl _ _) _
  have z2 : Blk (w2.alloc (.cells #[.int .i64 0, .int .i64 0, .int .i64 0, .int .i64 0] 46)) w2.heap.size 46 #[.int .i64 0, .int .i64 0, .int .i64 0, .int .i64 0] := Blk.new w2 _ _
  have z1b := (z1.below hb2 (Blk.lt z1)).alloc (.cells #[.int .i64 0, .int .i64 0, .int .i64 0, .int .i64 0] 46)
  have hl1b := (hl1'.below (hb2.mono hv1.size)).below (hv2.mono (Nat.le_trans hv1.size hb2.size))
  have hl2b := hl2.below hv2
  have q2 := Nat.le_trans hv1.size hb2.size
  generalize hX2 : w2.alloc (.cells #[.int .i64 0, .int .i64 0, .int .i64 0, .int .i64 0] 46) = W2 at *
  clear hX2
  go_upto_region 4 with (go_at_call 14; (with_reducible refine (kR3 _ (hm.below hW2)).mono ?_); rintro en w3 ⟨⟨l3, k3, rfl⟩, hb3⟩)
  have hW3 : Below w.heap.size w (w3.alloc (.cells #[.int .i64 11, .int .i64 5, .int .i64 l3, .int .i64 k3] 46)) := bl_alloc (bl_any hW2 hb3) _
  have hv3 : Below w3.heap.size w3 (w3.alloc (.cells #[.int .i64 11, .int .i64 5, .int .i64 l3, .int .i64 k3] 46)) := bl_alloc (Below.refl _ _) _
  have z3 : Blk (w3.alloc (.cells #[.int .i64 11, .int .i64 5, .int .i64 l3, .int .i64 k3] 46)) w3.heap.size 46 #[.int .i64 11, .int .i64 5, .int .i64 l3, .int .i64 k3] := Blk.new w3 _ _
  have z1c := (z1b.below hb3 (Blk.lt z1b)).alloc (.cells #[.int .i64 11, .int .i64 5, .int .i64 l3, .int .i64 k3] 46)
  have z2c := (z2.below hb3 (Blk.lt z2)).alloc (.cells #[.int .i64 11, .int .i64 5, .int .i64 l3, .int .i64 k3] 46)
  have q3 := Nat.le_trans hv2.size hb3.size
  have hl1c := (hl1b.below (hb3.mono (Nat.le_trans q2 hv2.size))).below (hv3.mono (Nat.le_trans q2 q3))
  have hl2c := (hl2b.below (hb3.mono hv2.size)).below (hv3.mono q3)
  generalize hX3 : w3.alloc (.cells #[.int .i64 11, .int .i64 5, .int .i64 l3, .int .i64 k3] 46) = W3 at *
  clear hX3
  go_upto_region 5 with (go_at_call 14; (with_reducible refine (kR4 _ (hm.below hW3)).mono ?_); rintro en w4 ⟨⟨l4, k4, rfl⟩, hb4⟩)
  have hW4 : Below w.heap.size w (w4.alloc (.cells #[.int .i64 13, .int .i64 6, .int .i64 l4, .int .i64 k4] 46)) := bl_alloc (bl_any hW3 hb4) _
  have hv4 : Below w4.heap.size w4 (w4.alloc (.cells #[.int .i64 13, .int .i64 6, .int .i64 l4, .int .i64 k4] 46)) := bl_alloc (Below.refl _ _) _
  have z4 : Blk (w4.alloc (.cells #[.int .i64 13, .int .i64 6, .int .i64 l4, .int .i64 k4] 46)) w4.heap.size 46 #[.int .i64 13, .int .i64 6, .int .i64 l4, .int .i64 k4] := Blk.new w4 _ _
  have z1d := (z1c.below hb4 (Blk.lt z1c)).alloc (.cells #[.int .i64 13, .int .i64 6, .int .i64 l4, .int .i64 k4] 46)
  have z2d := (z2c.below hb4 (Blk.lt z2c)).alloc (.cells #[.int .i64 13, .int .i64 6, .int .i64 l4, .int .i64 k4] 46)
  have z3d := (z3.below hb4 (Blk.lt z3)).alloc (.cells #[.int .i64 13, .int .i64 6, .int .i64 l4, .int .i64 k4] 46)
  have q4 := Nat.le_trans hv3.size hb4.size
  have hl1d := (hl1c.below (hb4.mono (Nat.le_trans (Nat.le_trans q2 q3) hv3.size))).below (hv4.mono (Nat.le_trans (Nat.le_trans q2 q3) q4))
  have hl2d := (hl2c.below (hb4.mono (Nat.le_trans q3 hv3.size))).below (hv4.mono (Nat.le_trans q3 q4))
  generalize hX4 : w4.alloc (.cells #[.int .i64 13, .int .i64 6, .int .i64 l4, .int .i64 k4] 46) = W4 at *
  clear hX4
  go_upto_region 6 with (go_at_call 9; (with_reducible refine (kRw _).mono ?_); rintro en w5 ⟨⟨b5, o5, c5, rfl, t6, t9⟩, hb5⟩)
  have hW5 := bl_any hW4 hb5
  have z1e := z1d.below hb5 (Blk.lt z1d)
  have z2e := z2d.below hb5 (Blk.lt z2d)
  have z3e := z3d.below hb5 (Blk.lt z3d)
  have z4e := z4.below hb5 (Blk.lt z4)
  have hl1e := hl1d.below (hb5.mono (Nat.le_trans (Nat.le_trans (Nat.le_trans q2 q3) q4) hv4.size))
  have hl2e := hl2d.below (hb5.mono (Nat.le_trans (Nat.le_trans q3 q4) hv4.size))
  obtain ⟨rfl, b1, o1, rfl, p1, b1p, o1p, c1p, p2, ⟨lA1, lc1, p3⟩, p4⟩ := hl1e.one rfl
  obtain ⟨rfl, b2, o2, rfl, r1, b2p, o2p, c2p, r2, ⟨lA2, lc2, r3⟩, r4⟩ := hl2e.one rfl
  have r3' : w5.cell? ⟨b2p, o2p, none⟩ = some (.slice lA2 2 lc2) := by rw [r3]; congr 2; exact ksl2
  have r4' : w5.cell? ⟨b2p, o2p + 8, none⟩ = some (.int .i64 2000) := r4
  have r1' : w5.cell? ⟨b2, o2, none⟩ = some (.string ⟨#[99, 112, 117]⟩) := r1
  have p1' : w5.cell? ⟨b1, o1, none⟩ = some (.string ⟨#[97, 46, 98]⟩) := p1
  clear r3 r4 r1 p1 p2 p3 p4
  clear hl1 hl1' hl1b hl1c hl1d hl1e hl2 hl2b hl2c hl2d hl2e z1 z1b z1c z1d z2 z2c z2d z3 z3d z4 hb1 hb2 hb3 hb4 hb5 hv1 hv2 hv3 hv4 hW1 hW2 hW3 hW4 q2 q3 q4 kR1 kR2 kR3 kR4 kRw
  have c10 := (Blk.cell z1e 0).trans rfl
  have c11 := (Blk.cell z1e 1).trans rfl
  have c12 := (Blk.cell z1e 2).trans rfl
  have c13 := (Blk.cell z1e 3).trans rfl
  have c20 := (Blk.cell z2e 0).trans rfl
  have c21 := (Blk.cell z2e 1).trans rfl
  have c22 := (Blk.cell z2e 2).trans rfl
  have c23 := (Blk.cell z2e 3).trans rfl
  have c30 := (Blk.cell z3e 0).trans rfl
  have c31 := (Blk.cell z3e 1).trans rfl
  have c40 := (Blk.cell z4e 0).trans rfl
  have c41 := (Blk.cell z4e 1).trans rfl
  go_wp2_with (go_at_call 11; (with_reducible refine (kB _).mono ?_); rintro en w6 ⟨rfl, hb6⟩)
  go_ret
  exact ⟨rfl, bl_any hW5 hb6⟩
end
end Go.Proofs.YtoplengednoldaaGreatDoor
